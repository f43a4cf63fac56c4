import PyProof.Rows.All
import Wide.All
import OpenK.AllK
import Wide.FinOn
import KE.KUnpackStar
import HandS.ForMost
import KE.SortData
import KE.KDictPairs
import PyProof.DictUpdate
import HandS.NoneIn
import PyProof.StrOps2
import PyProof.ReprReads
import PyProof.Rows.NestShow
import HandS.IsInst
import HandS.Flow
import HandS.Style
import HandS.Walk
import HandS.Evl
import HandS.Wide
import HandS.DictComp
import PyProof.SumAny
import HandS.Defaults
import HandS.More
import HandS.Head0
import HandS.Head1
import HandS.Head2
import HandS.HeadEnd
import HandS.HeadHook1
import HandS.HeadHook2
import HandS.HeadHook3
import KE.GoesMore
import KE.GoesZip
import HandS.Zip
import PyProof.Rows.SeqMore
import HandS.Strs
import HandS.ExcInit
import HandS.ExcField
import HandS.ExcOwn
import HandS.MakeKwOnly
import HandS.WordsExc
import PyProof.CallStr
import HandS.RaiseMore
import PyProof.MeetsIn
import HandS.Deep
import HandS.ExcIs
import PyProof.InstNe
import KE.KEqNest
import PyProof.NeKinds
import PyProof.EqAt
import KE.SortCalls
import HandS.SetKeys
import PyProof.SetRoads
import PyProof.WalksMore
import HandS.TupMul
import PyProof.ReprBulk
import HandS.Codes
import HandS.CallSlots
import PySem.Challenge.RW_nestyard_k80_figures_and_names_in_texts
set_option Elab.async false
set_option linter.all false
set_option maxRecDepth 100000
set_option maxHeartbeats 4000000
set_option autoImplicit false
/-! Own rules over the hand layer: targets with a star. -/
namespace HX
open PySem PySem.Spec PySem.Calls PyProof.Rows L2
section
variable {prog : Program} {w : World} {A : Around} {E : Value → Shared → Prop} {s : Shared}
/-- the items of a tuple over n targets of which the i-th has a star -/
theorem star_run {t : Addr} {its : Array Value} {n i : Nat} {Q : List Value → Shared → Prop} (ht : IsTup s.heap t its) (hh : A.handled = none) (hi : i < n) (hn : n ≤ its.size + 1) (hz : its.size ≤ 16384)
    (q : ∀ (g : Heap) (tk : Nat), (∀ b o, s.heap.get? b = some o → g.get? b = some o) →
      Q (its.toList.take i ++ [.ref g.objs.size] ++ (its.toList.drop i).drop (its.size + 1 - n)) { s with heap := g.push { cls := .type "list", data := .seq ((its.toList.drop i).take (its.size + 1 - n)).toArray }, toks := tk }) :
    wpAny (model prog w) A (unpackItems (.ref t) n (some i)) Q E s := by
  have tlt : t < s.heap.objs.size := ht.lt
  have tne : t ≠ s.heap.objs.size := Nat.ne_of_lt tlt
  have lens : (its.toList.take i).length = i ∧ (its.toList.drop i).length = its.size - i := by
    refine ⟨?_, ?_⟩
    · rw [List.length_take, Array.length_toList]; omega
    · rw [List.length_drop, Array.length_toList]
  unfold unpackItems
  apply wpAny_bind
  unfold notIterableAtAll
  apply wpAny_bind
  refine wpAny_specialOf ht.typeIs slot_tuple_iter.lookup (wpAny_pure ?_)
  simp only [Bool.false_eq_true, if_false]
  apply wpAny_bind
  refine wpAny_holding (iter_tuple ht ?_)
  apply wpAny_bind
  refine wpAny_holding (draw_tuple tne i 0 _ _ ⟨_, Heap.get?_push_size _ rfl, rfl, rfl⟩ (ht.push _) (by omega) fun g1 it1 sb => ?_)
  have ht1 : IsTup g1 t its := (ht.push _).extBut sb.extBut tne
  rw [Nat.zero_add] at it1
  obtain ⟨oi, eoi, _⟩ := id it1
  rw [List.drop_zero, if_neg (show ¬ ((its.toList.take i).length < i) by rw [lens.1]; exact Nat.lt_irrefl _)]
  apply wpAny_bind
  refine wpAny_holding (PySem.W.kun_collect (s := { s with heap := g1 }) (T := "tuple_iterator") (.inr (.inr (.inr rfl))) (Walks.tuple (A := A.in1) hh s.heap.objs.size t tne its) (fun j u st => st.1.typeIs) (k := i) (by omega) ⟨it1, ht1⟩ (Heap.lt_size eoi) ht1.lt (fun g2 tk kp => ?_) (by rw [sizeLine_eq]; omega))
  have mid : (its.toList.drop i).length - (n - 1 - i) = its.size + 1 - n := by rw [lens.2]; omega
  have enough : ¬ ((its.toList.drop i).length < n - 1 - i) := by rw [lens.2]; omega
  show wpAny _ _ (if (its.toList.drop i).length < n - 1 - i then _ else _) _ _ _
  rw [if_neg enough]
  show wpAny _ _ (newList ((its.toList.drop i).take ((its.toList.drop i).length - (n - 1 - i))) >>= fun d => pure (its.toList.take i ++ [d] ++ (its.toList.drop i).drop ((its.toList.drop i).length - (n - 1 - i)))) _ _ _
  rw [mid]
  apply wpAny_bind
  refine wpAny_newList (wpAny_pure ?_) (by rw [List.length_take, lens.2, sizeLine_eq]; omega)
  exact q g2 tk fun b o e => kp b o (Nat.ne_of_lt (Heap.lt_size e)) (sb.extBut b o (Nat.ne_of_lt (Heap.lt_size e)) (Heap.get?_push_of_some _ e))
end
/-- (a, *b, c) = a tuple: the starred one is a new list -/
def gStar (K : PySem.W.Frag) (n i : Nat) (t : TGs) : TG := fun v σ H Q => ∃ a xs, v = .ref a ∧ SqT K H a xs ∧ n ≤ xs.length + 1 ∧ xs.length ≤ 16384 ∧
  ∀ p, H p = none → t (xs.take i ++ [.ref p] ++ (xs.drop i).drop (xs.length + 1 - n)) σ (upd H p (.lst ((xs.drop i).take (xs.length + 1 - n)))) Q
section
variable {X : Cx}
theorem pgs_star {e : Expr} {es : List Expr} {t : TG} {u : TGs} {p : Pos} (h1 : PG X e t) (h2 : PGs X es u) : PGs X (.Starred e p :: es) (gCons t u) := by
  constructor
  intro pins s σ H vs us Q I r h
  obtain ⟨v, vr, rfl, h⟩ := h
  cases r with
  | cons r rr =>
    show wpAny _ _ (assignInOrder (assign e X.env :: (assignEach es X.env).map (·.2)) _) _ _ _
    exact assignInOrder_cons (thn (h1.run pins s σ H _ _ _ I r h) fun _ s1 ⟨σ1, H1, I1, q1⟩ => h2.run pins s1 σ1 H1 _ _ Q I1 rr q1)
theorem pg_star {es : List Expr} {k : Nat} {t : TGs} {n i : Nat} {pos : Pos} (hc : X.calm = true) (h : PGs X es t)
    (hn : (assignEach es X.env).length = n := by rfl) (hst : (assignEach es X.env).findIdx? (·.1) = some i := by rfl) (hi : i < n := by decide) : PG X (.Tuple es k pos) (gStar X.K n i t) := by
  refine ⟨fun pins s σ H v u Q I r hw => ?_⟩
  obtain ⟨a, xs, e1, hq, hl, hz, hw⟩ := hw
  subst e1
  cases r
  obtain ⟨its, rv, ht, _⟩ := I.tuple hq
  have el : its.length = xs.length := rv.length.symm
  rw [assign_Tuple]
  refine wpAny_bind (wpAny_standAt ?_)
  unfold unpack
  rw [hn, hst]
  refine wpAny_bind (wpAny_holding (star_run ht (I.ok.hd hc) hi (by rw [List.size_toArray, el]; exact hl) (by rw [List.size_toArray, el]; exact hz) fun g tk kp => ?_))
  simp only [List.size_toArray, el]
  have I1 : Inv X pins σ H { s with heap := g, toks := tk } := I.kept kp
  have I2 : Inv X pins σ (upd H g.objs.size (.lst ((xs.drop i).take (xs.length + 1 - n)))) { s with heap := g.push { cls := .type "list", data := .seq ((its.drop i).take (xs.length + 1 - n)).toArray }, toks := tk } :=
    I1.laid (t' := tk) (fun b o q => Heap.get?_push_of_some _ q) (Nat.le_refl _)
      ⟨Nat.le_trans (Nat.le_trans (List.length_take_le' _ _) (by rw [List.length_drop]; exact Nat.sub_le _ _)) (Nat.le_trans hz (by rw [sizeLine_eq]; omega)), _, 0, (rv.drop i).take _, Heap.get?_push_size _ rfl⟩
  exact h.run pins _ σ _ _ _ Q I2 (((rv.take i).append (show Vals [V.ref g.objs.size] [Value.ref g.objs.size] from .cons rfl .nil)).append ((rv.drop i).drop _)) (hw _ (I1.hok.fresh (Nat.le_refl _)))
end
end HX
/-! Own rules over the hand layer: sorted of data; dict of a tuple of pairs; update by a dict; a tuple whose object is plain. -/
namespace HX
open PySem PySem.Spec PySem.Calls PyProof.Rows L2
open PySem.W (EachIs)
section
variable {K : PySem.W.Frag} {H H' : Hp}
theorem dpAll_len : ∀ {xs : List V} {ds : List PyData}, DpAll K H xs ds → xs.length = ds.length
  | _, _, .nil => rfl
  | _, _, .cons _ t => congrArg (· + 1) (dpAll_len t)
theorem each_len {α β : Type} {R : α → β → Prop} : ∀ {as : List α} {bs : List β}, EachIs R as bs → as.length = bs.length
  | _, _, .nil => rfl
  | _, _, .cons _ t => congrArg (· + 1) (each_len t)
theorem each_of_vals : ∀ {xs : List V} {us : List Value} {ds : List PyData}, Vals xs us → xs.length = ds.length → EachIs (fun (u : Value) (b : V × PyData) => RelV b.1 u) us (xs.zip ds)
  | _, _, [], r, h => by
    cases r with
    | nil => exact .nil
    | cons _ _ => cases h
  | _, _, d :: ds, r, h => by
    cases r with
    | nil => cases h
    | cons r t => exact .cons r (each_of_vals t (Nat.succ.inj h))
theorem vals_of_each : ∀ {us : List Value} {bs : List (V × PyData)}, EachIs (fun (u : Value) (b : V × PyData) => RelV b.1 u) us bs → Vals (bs.map (·.1)) us
  | _, _, .nil => .nil
  | _, _, .cons r t => .cons r (vals_of_each t)
theorem zip_snd : ∀ {xs : List V} {ds : List PyData}, xs.length = ds.length → (xs.zip ds).map (·.2) = ds
  | [], [], _ => rfl
  | x :: xs, d :: ds, h => by
    rw [List.zip_cons_cons, List.map_cons, zip_snd (Nat.succ.inj h)]
/-- the items, sorted by the data that they are -/
def sortD (xs : List V) (ds : List PyData) : List V := ((xs.zip ds).mergeSort (PySem.W.dataLe false (·.2))).map (·.1)
theorem sortD_perm {xs : List V} {ds : List PyData} (h : xs.length = ds.length) : (sortD xs ds).Perm xs := by
  have h1 := (List.mergeSort_perm (xs.zip ds) (PySem.W.dataLe false (·.2))).map (·.1)
  rwa [List.map_fst_zip (Nat.le_of_eq h)] at h1
def rSortD (K : PySem.W.Frag) : List V → Hp → VK → Prop := fun vs H Q => ∃ (a : Addr) (xs : List V) (ds : List PyData), vs = [V.ref a] ∧ SqL K H a xs ∧ DpAll K H xs ds ∧ PySem.W.AllAlike ds ∧ PySem.W.Sortable ds ∧ (∀ d ∈ ds, d.depth ≤ 60) ∧
  ∀ p, H p = none → Q (.ref p) (upd H p (.lst (sortD xs ds)))
end
section
variable {X : Cx} {pins : List (Addr × Obj)} {σ : L2.St} {H : Hp} {s : Shared}
theorem reads_each (I : Inv X pins σ H s) : ∀ {xs : List V} {us : List Value} {ds : List PyData}, Vals xs us → DpAll X.K H xs ds → EachIs (fun (u : Value) (b : V × PyData) => ∃ as, Reads s.heap u b.2 as) us (xs.zip ds)
  | _, _, _, .nil, .nil => .nil
  | _, _, _, .cons r t, .cons h k => .cons (Dp.reads I _ _ _ h r) (reads_each I t k)
theorem cr_sortD (hu : X.A.units + 64 < cLine) : CallR X (.builtin "sorted") (rSortD X.K) := by
  intro pins s σ H vs us Q I r h
  obtain ⟨a, xs, ds, rfl, hs, hd, hal, hk, hdep, q⟩ := h
  obtain ⟨its, rv, hl, hz⟩ := I.list hs
  rw [Vals.ref1 r]
  have el := dpAll_len hd
  have ez : (xs.zip ds).length = xs.length := by rw [List.length_zip, el, Nat.min_self]
  have e2 : (xs.zip ds).map (fun b : V × PyData => b.2) = ds := zip_snd el
  refine PySem.W.sorted_data (enc := fun b : V × PyData => b.2) hl.isList (each_of_vals rv el) (reads_each I rv hd) (by rw [e2]; exact hal) (by rw [e2]; exact hk) (by rw [ez]; exact hz) (fun b hb => ?_) fun out ho eo => ?_
  · have hb2 : b.2 ∈ ds := by rw [← e2]; exact List.mem_map.mpr ⟨b, hb, rfl⟩
    have := hdep _ hb2
    omega
  · obtain ⟨c, he⟩ := PyProof.Rows.sortedAll_at s.heap its out.toArray
    have hlen : (sortD xs ds).length ≤ sizeLine := by rw [(sortD_perm el).length_eq]; exact hz
    exact ⟨.ref _, upd H (s.heap.objs.size + 1) (.lst (sortD xs ds)), I.laid (t' := s.toks) (fun _ _ => PyProof.Rows.sortedAll_old) (Nat.le_succ _) ⟨hlen, out, c, vals_of_each eo, he⟩, rfl, q _ (I.hok.fresh (Nat.le_succ _))⟩
/-- tuple(list): its object has no dict of its own -/
def rTupP (K : PySem.W.Frag) : List V → Hp → VK → Prop := fun vs H Q => ∃ (a : Addr) (xs : List V), vs = [V.ref a] ∧ SqL K H a xs ∧ ∀ (p : Addr) (o : Obj), H p = none → o.dict = none → Q (.ref p) (upd H p (.frz o (.tup xs)))
theorem call_tupP : CallR X (.type "tuple") (rTupP X.K) := by
  intro pins s σ H vs us Q I r h
  obtain ⟨a, xs, rfl, hs, q⟩ := h
  obtain ⟨its, rv, hl, hz⟩ := I.list hs
  rw [Vals.ref1 r]
  have el := rv.length
  refine call_tuple_list hl.isList (fun g kp => ?_) (by rw [List.size_toArray, ← el]; exact hz)
  have I1 : Inv X pins σ H { s with heap := g } := I.kept (t' := s.toks) kp
  have e : (g.push { cls := .type "tuple", data := .seq its.toArray }).get? g.objs.size = some { cls := .type "tuple", data := .seq its.toArray } := Heap.get?_push_size _ rfl
  exact ⟨.ref g.objs.size, _, I1.laid (t' := s.toks) (fun _ _ k => Heap.get?_push_of_some _ k) (Nat.le_refl _) (show ObjOk X.prog X.w _ _ _ (.frz _ (.tup xs)) from ⟨e, hz, its, rv, _, e, rfl, _, rfl⟩), rfl, q _ _ (I1.hok.fresh (Nat.le_refl _)) rfl⟩
end
end HX
namespace HX
open PySem PySem.Spec PySem.Calls PyProof.Rows L2
open PySem.W (EachIs)
section
variable {X : Cx} {pins : List (Addr × Obj)} {σ : L2.St} {H : Hp} {s : Shared}
theorem pairs_v (I : Inv X pins σ H s) : ∀ {ps : List Addr} {kvs : List (Key × V)}, Paired (fun p kv => SqT X.K H p [kV kv.1, kv.2]) ps kvs →
    ∃ (prs : List (Key × Value)) (rs : List (Value × Value)), KV kvs prs ∧ prs.length = ps.length ∧ rs.length = ps.length ∧
      ∀ (j : Nat) (k v : Value), rs[j]? = some (k, v) → ∃ (b : Addr) (key : Key), ps[j]? = some b ∧ IsTup s.heap b #[k, v] ∧ prs[j]? = some (key, v) ∧ keyIs key k = true
  | _, _, .nil => ⟨[], [], .nil, rfl, rfl, fun j k v e => by simp at e⟩
  | _, _, .cons (a := p) (b := kv) h t => by
    obtain ⟨prs, rs, r, l1, l2, hp⟩ := pairs_v I t
    obtain ⟨its, rv, ht, _⟩ := I.tuple h
    obtain ⟨u, y, ei, ru, ry⟩ := vals2 rv
    subst ei
    refine ⟨(kv.1, y) :: prs, (u, y) :: rs, .cons ⟨rfl, ry⟩ r, congrArg (· + 1) l1, congrArg (· + 1) l2, fun j k v e => ?_⟩
    cases j with
    | zero =>
      obtain ⟨rfl, rfl⟩ := Prod.mk.inj (Option.some.inj e)
      exact ⟨p, kv.1, rfl, ht, rfl, kV_is (P := X.prog) (w := X.w) ru⟩
    | succ j => exact hp j k v e
/-- dict(t), t a plain tuple of pairs -/
def rDictT (K : PySem.W.Frag) : List V → Hp → VK → Prop := fun vs H Q => ∃ (a : Addr) (o : Obj) (ps : List Addr) (kvs : List (Key × V)), vs = [.ref a] ∧ H a = some (.frz o (.tup (ps.map V.ref))) ∧ o.dict = none ∧ Paired (fun p kv => SqT K H p [kV kv.1, kv.2]) ps kvs ∧
  ∀ p, H p = none → Q (.ref p) (upd H p (.dK (mergeK [] kvs)))
theorem call_dictT (hcalm : X.calm = true) : CallR X (.type "dict") (rDictT X.K) := by
  intro pins s σ H vs us Q I r h
  obtain ⟨a, o, ps, kvs, rfl, ha, od, hp, q⟩ := h
  rw [Vals.ref1 r]
  obtain ⟨ho, hz, its, rv, o2, ho2, hc, n, hd⟩ := (show ObjOk X.prog X.w H s.heap a (.frz o (.tup (ps.map V.ref))) from I.hok a _ ha)
  rw [ho] at ho2
  cases ho2
  have ei := refs_at rv
  subst ei
  rw [List.length_map] at hz
  obtain ⟨prs, rs, rel, l1, l2, hq⟩ := pairs_v I hp
  refine PySem.call_dict_pairs (knd := mixKind X.prog X.w) (kvs := prs) (PairArg.tuple a (ps.map Value.ref).toArray (fun j => ps[j]?.getD 0) rs) (I.ok.hd hcalm) ⟨⟨o, n, ho, hc, od, hd⟩, by simp [l2], fun j k v e => ?_⟩ ⟨by rw [l1, l2], fun i k v e => ?_⟩ (by rw [l2]; exact hz) fun h' tk hd' kp => ?_
  · obtain ⟨b, key, e1, e2, _⟩ := hq j k v e
    have e5 : s.heap.IsTuple b #[k, v] := e2
    exact ⟨by simp [e1], .inl (by simpa [e1] using e5)⟩
  · obtain ⟨b, key, e1, e2, e3, e4⟩ := hq i k v e
    exact ⟨key, e3, e4⟩
  · have hm : (s.heap.objs.size == sysModules) = false := beq_eq_false_iff_ne.mpr (Nat.ne_of_gt I.big)
    have hlen : (mergeK [] kvs).length ≤ sizeLine := by
      refine Nat.le_trans (length_mergeK kvs []) ?_
      rw [List.length_nil, Nat.zero_add, rel.length, l1]
      exact hz
    exact ⟨.ref s.heap.objs.size, upd H s.heap.objs.size (.dK (mergeK [] kvs)), I.laid (t' := tk) (fun b o e => kp b o (by simp) e) (Nat.le_refl _) (show ObjOk X.prog X.w _ _ _ (.dK (mergeK [] kvs)) from ⟨hlen, hm, merged [] prs, KV.merge rel .nil, hd'⟩), rfl, q _ (I.hok.fresh (Nat.le_refl _))⟩
end
end HX
/-! Own rules: dict(d), text * number. -/
namespace HX
open PySem PySem.Spec PySem.Calls PyProof.Rows L2
section
variable {X : Cx}
/-- dict(d): a new dict of the same pairs -/
def rDictC : List V → Hp → VK → Prop := fun vs H Q => ∃ (a : Addr) (kvs : List (Key × V)), vs = [.ref a] ∧ Rd H a (.dK kvs) ∧ ∀ p, H p = none → Q (.ref p) (upd H p (.dK kvs))
theorem call_dictC : CallR X (.type "dict") rDictC := by
  intro pins s σ H vs us Q I r h
  obtain ⟨a, kvs, rfl, e, q⟩ := h
  rw [Vals.ref1 r]
  exact d_copyOf I e fun p s' hp I' => ⟨.ref p, _, I', rfl, q p hp⟩
/-- a text so many times -/
def times (x : Str) (n : Nat) : Str := ⟨((List.replicate n x.cps.toList).flatten).toArray⟩
theorem times_len (x : Str) (n : Nat) : (times x n).length = n * x.length := by
  show (List.flatten _).toArray.size = n * x.cps.size
  rw [List.size_toArray, List.length_flatten, List.map_replicate, List.sum_replicate_nat, Array.length_toList]
theorem fold_rep (c : Array Nat) : ∀ (n : Nat) (acc : Array Nat), ((List.replicate n c).foldl (· ++ ·) acc).toList = acc.toList ++ (List.replicate n c.toList).flatten
  | 0, acc => by simp
  | n + 1, acc => by
    rw [List.replicate_succ, List.foldl_cons, fold_rep c n, List.replicate_succ, List.flatten_cons, Array.toList_append, List.append_assoc]
def rTimes : R2 := fun x y H Q => ∃ (z : Str) (n : Nat), x = .str z ∧ y = .int (n : Int) ∧ n ≤ 1000 ∧ z.length ≤ 10000 ∧ Q (.str (times z n)) H
theorem op_times : OpR X (binaryOp .Mult) rTimes := by
  intro pins s σ H x y v u Q I rx ry h
  obtain ⟨z, n, rfl, rfl, hn, hz, q⟩ := h
  obtain ⟨t, rfl⟩ := rx
  obtain ⟨t', rfl⟩ := ry
  have hm : z.length * n ≤ 10000 * 1000 := Nat.mul_le_mul hz hn
  refine PySem.P.mul_str (by simp only [Bool.or_eq_false_iff, decide_eq_false_iff_not]; omega) (fun h1 _ => ?_) (fun _ _ => ?_) ?_
  · have h2 : (0 : Int) < (n : Int) := by omega
    have h3 : (z.length : Int) ≤ (2 ^ 63 - 1) / (n : Int) := Int.le_ediv_of_mul_le h2 (by rw [← Int.natCast_mul]; omega)
    omega
  · rw [Int.toNat_natCast]
    show decide (z.length * n > sizeLine) = false
    rw [decide_eq_false_iff_not, sizeLine_eq]
    omega
  · have fin : ∀ (w : Str), w = times z n → w.length ≤ sizeLine ∧ EP X pins σ Q (.str w s.toks) { s with toks := s.toks + 1 } := fun w e => by
      subst e
      refine ⟨?_, .str (times z n), H, I.tok _, ⟨_, rfl⟩, q⟩
      rw [times_len, Nat.mul_comm, sizeLine_eq]
      omega
    by_cases h0 : n = 0
    · subst h0
      rw [if_pos (by decide)]
      exact fin _ rfl
    · rw [if_neg (show ¬ ((n : Int) < 1) by omega)]
      by_cases h1 : ((n : Int) == 1 || z.length == 0) = true
      · rw [if_pos h1]
        have e : z = times z n := by
          rcases Bool.or_eq_true_iff.mp h1 with h | h
          · have : n = 1 := by have := eq_of_beq h; omega
            subst this
            show z = ⟨([z.cps.toList].flatten).toArray⟩
            simp
          · have hz0 : z.cps = #[] := Array.size_eq_zero_iff.mp (eq_of_beq h)
            show z = ⟨((List.replicate n z.cps.toList).flatten).toArray⟩
            rw [hz0]
            obtain ⟨c⟩ := z
            simp only at hz0
            subst hz0
            congr 1
            induction n with
            | zero => rfl
            | succ m ih =>
              rw [List.replicate_succ, List.flatten_cons]
              by_cases hm0 : m = 0
              · subst hm0; rfl
              · simp
        exact ⟨.str (times z n), H, I, ⟨t, by rw [← e]⟩, q⟩
      · rw [if_neg h1]
        refine fin _ ?_
        show (⟨_⟩ : Str) = ⟨_⟩
        congr 1
        apply Array.toList_inj.mp
        rw [Int.toNat_natCast, fold_rep]
        simp
end
end HX
/-! Own layer: a def's promise where nothing is being shown by repr around it (FnG), so that repr of lists and tuples can be read. -/
namespace HG
open PySem PySem.Spec PySem.Calls PyProof.Rows L2
/-- nothing is being shown -/
abbrev Shut (A : Around) : Prop := A.guards = some []
structure FnG (P : Program) (w : World) (K : PySem.W.Frag) (mg : Str → Option Value) (base : Heap) (CX : CXT) (k : Nat) (f : Addr) (fd : FuncData) (ps : List Str) (sp : Sp) : Prop where
  len : ∀ vs H Q E, sp vs H Q E → vs.length = ps.length
  go : ∀ (A : Around) (fr : List Env) (s : Shared) (H : Hp) (ar : Args) (us : List Value) (vs : List V) (Q : VK) (E : XK), Shut A → Room k A → Env0 P w K mg base A fr s H →
    BindsTo s fd ar (ps.zip us) → Vals vs us → sp vs H Q E → codeAny (model P w) A (.call (.ref f) ar) (CR CX fr P w H s Q E) s
section
variable {P : Program} {w : World} {K : PySem.W.Frag} {mg : Str → Option Value} {base : Heap} {CX : CXT} {j k : Nat} {f : Addr} {fd : FuncData} {ps : List Str} {sp sp' : Sp}
theorem FnG.of (F : FnOk P w K mg base CX k f fd ps sp) : FnG P w K mg base CX k f fd ps sp :=
  ⟨F.len, fun A fr s H ar us vs Q E _ hr e0 hb hv hs => F.run A fr s H ar us vs Q E hr e0 hb hv hs⟩
theorem FnG.mono (F : FnG P w K mg base CX j f fd ps sp) (h : j ≤ k) : FnG P w K mg base CX k f fd ps sp :=
  ⟨F.len, fun A fr s H ar us vs Q E g hr => F.go A fr s H ar us vs Q E g (hr.mono h)⟩
theorem FnG.imp (F : FnG P w K mg base CX k f fd ps sp) (h : ∀ vs H Q E, sp' vs H Q E → sp vs H Q E) : FnG P w K mg base CX k f fd ps sp' :=
  ⟨fun vs H Q E q => F.len vs H Q E (h _ _ _ _ q), fun A fr s H ar us vs Q E g hr e0 hb hv hs => F.go A fr s H ar us vs Q E g hr e0 hb hv (h _ _ _ _ hs)⟩
end
section
variable {X : Cx} {CX : CXT} {k : Nat} {f C : Addr} {fd : FuncData} {ps ks : List Str} {sp : Sp} {dvs : List V} {ds : List Value} {E : XK} {x m : Str} {p pos apos : Pos} {e o : Expr} {es : List Expr} {ta : TE} {t : TA} {kws : List Keyword} {tk : TA}
theorem go_fn {pins : List (Addr × Obj)} {σ : L2.St} {H : Hp} {s : Shared} {Q : VK} {us : List Value} {vs : List V} (F : FnG X.prog X.w X.K X.mg X.base CX k f fd ps sp) (sh : Shut X.A) (hr : Room k X.A) (hb : L2.Binds X.K fd ps ds) (hd : Vals dvs ds)
    (hx : Passes CX X E) (I : Inv X pins σ H s) (r : Vals vs us) (h : sp (vs ++ dvs) H Q E) : wpAny (model X.prog X.w) X.A (call (.ref f) us) (EP X pins σ Q) X.xe s := by
  have r2 : Vals (vs ++ dvs) (us ++ ds) := r.append hd
  have hl := r2.length.symm.trans (F.len _ _ _ _ h)
  have one := F.go X.A X.stack s H ⟨us, []⟩ (us ++ ds) (vs ++ dvs) Q E sh hr I.env0 (hb s us I.kIn hl) r2 h
  refine wpAny_call (codeAny_mono one fun res s' hq => ?_)
  match res, hq with
  | .error e, hq => exact hx pins σ H s e s' I hq
  | .ok (.ret u), hq => exact I.after hq
theorem pe_callG (F : FnG X.prog X.w X.K X.mg X.base CX k f fd ps sp) (sh : Shut X.A) (hr : Room k X.A) (hg : Gl X x) (hm : X.mg x = some (.ref f)) (hk : PySem.W.keepIn X.K (.ref f) = true) (hb : L2.Binds X.K fd ps ds) (hd : Vals dvs ds)
    (hx : Passes CX X E) (ha : PA X (e :: es) t) (hdb : (x == ("__debug__" : Str)) = false := by decide) (he : starEach (e :: es) X.env = (false, eval e X.env) :: starEach es X.env := by rfl)
    (hpl : (backTo pos (starEach es X.env)).any (·.1) = false := by rfl) : PE X (.Call (.Name x p) (e :: es) [] pos) (tCall sp dvs E t) := by
  constructor
  intro pins s σ H Q I h
  apply wpAny_Call_Name_kw
  apply ld_glob I hg hm _ hdb
  exact PySem.W.callWith_K (h₀ := X.base) I.ok.mod.kin hk (thn (ha.run pos pins s σ H _ I h) fun us s1 ⟨vs, H1, I1, r, q⟩ => ⟨I1.kIn, go_fn F sh hr hb hd hx I1 r q⟩) he hpl
theorem pe_callG0 (F : FnG X.prog X.w X.K X.mg X.base CX k f fd ps sp) (sh : Shut X.A) (hr : Room k X.A) (hg : Gl X x) (hm : X.mg x = some (.ref f)) (hk : PySem.W.keepIn X.K (.ref f) = true) (hb : L2.Binds X.K fd ps ds) (hd : Vals dvs ds)
    (hx : Passes CX X E) (hdb : (x == ("__debug__" : Str)) = false := by decide) : PE X (.Call (.Name x p) [] [] pos) (tCall sp dvs E tNil) := by
  constructor
  intro pins s σ H Q I h
  apply wpAny_Call_Name_kw
  apply ld_glob I hg hm _ hdb
  exact PySem.W.callWith_K0 I.kIn hk (go_fn (us := []) F sh hr hb hd hx I .nil h)
theorem pe_methG {pl : Sem Bool} (he : PE X o ta) (c : Cls X.K C) (hm : Meth X.K C m f) (F : FnG X.prog X.w X.K X.mg X.base CX k f fd ps sp) (sh : Shut X.A) (hr : Room k X.A) (hb : L2.Binds X.K fd ps ds) (hd : Vals dvs ds) (hx : Passes CX X E) (ha : PA X (e :: es) t)
    (hst : starEach (e :: es) X.env = (false, eval e X.env) :: starEach es X.env := by rfl) (hpl : (backTo pos (starEach es X.env)).any (·.1) = false := by rfl)
    (ht : eval (.Call (.Attribute o m apos) (e :: es) [] pos) X.env = (eval o X.env >>= fun ov => standAt apos.atName >>= fun _ => holding [ov] (getMethod ov m pl) >>= fun fa =>
      callWith pos fa.1 fa.2 (backTo pos (starEach (e :: es) X.env)) (backToKw pos (keywordEach [] X.env))) := by rfl) : PE X (.Call (.Attribute o m apos) (e :: es) [] pos) (tMeth C m sp dvs E ta t) := by
  constructor
  intro pins s σ H Q I h
  refine PySem.W.methodCall_KW (pl := pl) (thn (he.run pins s σ H _ I h) fun u s1 ⟨y, H1, I1, rx, a, dx, fs, ex, ea, l, q⟩ => ?_) ht
  subst ex
  have eu : u = Value.ref a := rx
  subst eu
  refine getmeth_ok I1 ea c hm l ?_
  exact PySem.W.callWith_K (first := [.ref a]) (h₀ := X.base) I.ok.mod.kin hm.kp (thn (ha.run pos pins s1 σ H1 _ I1 q) fun us s2 ⟨vs, H2, I2, r, q2⟩ => ⟨I2.kIn, go_fn (us := .ref a :: us) (vs := .ref a :: vs) F sh hr hb hd hx I2 (.cons rfl r) q2⟩) hst hpl
theorem pe_methG0 {pl : Sem Bool} (he : PE X o ta) (c : Cls X.K C) (hm : Meth X.K C m f) (F : FnG X.prog X.w X.K X.mg X.base CX k f fd ps sp) (sh : Shut X.A) (hr : Room k X.A) (hb : L2.Binds X.K fd ps ds) (hd : Vals dvs ds) (hx : Passes CX X E)
    (ht : eval (.Call (.Attribute o m apos) [] [] pos) X.env = (eval o X.env >>= fun ov => standAt apos.atName >>= fun _ => holding [ov] (getMethod ov m pl) >>= fun fa =>
      callWith pos fa.1 fa.2 (backTo pos (starEach [] X.env)) (backToKw pos (keywordEach [] X.env))) := by rfl) : PE X (.Call (.Attribute o m apos) [] [] pos) (tMeth C m sp dvs E ta tNil) := by
  constructor
  intro pins s σ H Q I h
  refine PySem.W.methodCall_KW (pl := pl) (thn (he.run pins s σ H _ I h) fun u s1 ⟨y, H1, I1, rx, a, dx, fs, ex, ea, l, q⟩ => ?_) ht
  subst ex
  have eu : u = Value.ref a := rx
  subst eu
  refine getmeth_ok I1 ea c hm l ?_
  exact PySem.W.callWith_K0 (first := [.ref a]) I1.kIn hm.kp (go_fn (us := [.ref a]) (vs := [.ref a]) F sh hr hb hd hx I1 (.cons rfl .nil) q)
end
section
variable {P : Program} {w : World} {K : PySem.W.Frag} {mg : Str → Option Value} {base : Heap}
/-- a def of the text: its body, nothing being shown around it -/
theorem okG {x qual : Str} {st : Stmt} {f : Addr} {fd : FuncData} {N ps : List Str} {k : Nat} {sp : Sp} {CX : CXT} (F : Fun K x qual st f fd) (S : FnScope N ps (defScope st)) (len : ∀ vs H Q E, sp vs H Q E → vs.length = ps.length)
    (body : ∀ (cdv : Value) (A : Around) (fr : List Env) (s : Shared) (H : Hp) (vs : List V) (Q : VK) (E : XK), Shut (A.deeper (envOfC qual (defScope st) s.heap.objs.size f cdv)) → Room k (A.deeper (envOfC qual (defScope st) s.heap.objs.size f cdv)) → sp vs H Q E →
      ∃ t, PSs (cxOf CX P w K mg base N qual (defScope st) f cdv A fr s H E) (defBody st) t ∧ t { nx := fun _ H' => Q .non H', rt := Q } (start N vs) H) : FnG P w K mg base CX (k + 1) f fd ps sp := by
  obtain ⟨oc, od, kV, doc, pm, an, cdv, ct, osl, rfl, lk, hcd⟩ := F.ex
  refine ⟨len, fun A fr s H ar us vs Q E sh hr e0 hb r hsp => ?_⟩
  have KX : K.In s.heap := e0.mod.kin.keeps fun b o e => (e0.bs b o e).1
  have lim : s.heap.NoLimit := e0.mod.nolimit.keeps fun b o e => (e0.bs b o e).1
  have kinds : ∀ y ∈ ps.zip us, (defScope st).names.lookup y.1 = some .local ∨ ((defScope st).names.lookup y.1 = some .cell ∧ ((cellsFrom (s.heap.objs.size + 1) (defScope st).names []).lookup y.1).isSome = true) := by
    rintro ⟨n, v⟩ hy
    exact (S.par n (List.of_mem_zip hy).1).imp id fun q => ⟨q, PySem.W.cellsFrom_some _ _ _ (.inl q)⟩
  refine codeAny_call_function hr.depth (KX _ _ lk) rfl S.co S.gen rfl (PySem.W.codeRec_of KX hcd) (hb _ _ _ _ ?_)
  refine wpAny_newFunctionEnv_cells S.kind kinds fun env he s1 y => ?_
  subst he
  refine ⟨lim.keeps y.toInCall.keep, codeAny_func ?_⟩
  obtain ⟨t, ht, hq⟩ := body cdv A fr s H vs Q E sh (hr.deeper _) hsp
  have I : Inv (cxOf CX P w K mg base N qual (defScope st) f cdv A fr s H E) [] (start N vs) H s1 := inv_start S hr.hd e0 (len _ _ _ _ hsp) r y
  refine wpAny_mono (ht.run [] s1 (start N vs) H _ I hq) (fun fl s' hs => ?_) fun _ _ hs => hs
  match fl, hs with
  | .ret u, ⟨v, _, H', J, rv, q⟩ => exact ⟨v, H', J.os, J.bare, J.base, J.hok, rv, q⟩
  | .next, ⟨_, H', J, q⟩ => exact ⟨V.non, H', J.os, J.bare, J.base, J.hok, rfl, q⟩
  | .brk, ⟨_, _, _, q⟩ => exact q.elim
  | .cont, ⟨_, _, _, q⟩ => exact q.elim
/-- .. where nothing is raised -/
theorem okGn {x qual : Str} {st : Stmt} {f : Addr} {fd : FuncData} {N ps : List Str} {k : Nat} {sp : Sp} {CX : CXT} (F : Fun K x qual st f fd) (S : FnScope N ps (defScope st)) (len : ∀ vs H Q E, sp vs H Q E → vs.length = ps.length)
    (body : ∀ (cdv : Value) (A : Around) (fr : List Env) (s : Shared) (H : Hp) (vs : List V) (Q : VK) (E : XK), Shut (A.deeper (envOfC qual (defScope st) s.heap.objs.size f cdv)) → Room k (A.deeper (envOfC qual (defScope st) s.heap.objs.size f cdv)) → sp vs H Q E →
      ∃ t, PSs (cxOf CX P w K mg base N qual (defScope st) f cdv A fr s H E).nox (defBody st) t ∧ t { nx := fun _ H' => Q .non H', rt := Q } (start N vs) H) : FnG P w K mg base CX (k + 1) f fd ps sp :=
  okG F S len fun cdv A fr s H vs Q E sh hr h => let ⟨t, h1, h2⟩ := body cdv A fr s H vs Q E sh hr h; ⟨t, h1.nox, h2⟩

end

/-- the law's own call, over what the top has left -/
theorem law_callG {P : Program} {w : World} {K : PySem.W.Frag} {mg mb : Str → Option Value} {CX : CXT} {k : Nat} {fa a : Addr} {fd : FuncData} {x : Str} {sp : Sp} {s₁ : Shared} {vs : List Value} {ns : List Int}
    (KX : K.In s₁.heap) (hns : s₁.heap.Ns mainGlobals mg) (hb : s₁.heap.Ns builtinsNs mb) (hbb : ∀ x : Str, x ≠ "__name__" → mb x = bootBuiltins x) (hlim : s₁.heap.NoLimit) (hg : s₁.gens = #[])
    (ha : s₁.heap.get? a = some { cls := .type "list", data := .seq vs.toArray }) (hi : IntsAre vs ns) (hl : ns.length ≤ sizeLine) (hr : Room k callerA)
    (F : ∀ base : Heap, K.In base → base.Ns mainGlobals mg → FnG P w K mg base CX k fa fd [x] sp) (hbind : ∀ (s : Shared) (u : Value), BindsTo s fd ⟨[u], []⟩ [(x, u)])
    (hsp : ∀ H : Hp, Only H → SqL K H a (ns.map V.int) → sp [.ref a] H (fun v _ => v = .bl true) fun _ _ _ => False) (hCX : ∀ H e s', CX [] H s₁ (fun _ _ _ => False) e s' → False) :
    codeAny (model P w) callerA (.call (.ref fa) ⟨[.ref a], []⟩) (fun r s' => r = .ok (.ret (.bool true)) ∧ OldK s₁.heap s'.heap ∧ s'.os = s₁.os ∧ AllBare s'.gens) s₁ := by
  have rv := vals_ints hi
  have lenV := hi.length
  have core : ∀ H : Hp, Only H → SqL K H a (ns.map V.int) → HOk P w H s₁.heap → (∀ b, H b ≠ none → b = a) → (H a ≠ none → K.lookup a = none) →
      codeAny (model P w) callerA (.call (.ref fa) ⟨[.ref a], []⟩) (fun r s' => r = .ok (.ret (.bool true)) ∧ OldK s₁.heap s'.heap ∧ s'.os = s₁.os ∧ AllBare s'.gens) s₁ := by
    intro H hO hS hok hA hK
    have dictless : ∀ {b : Addr} {o : Obj} {es : Array DictEntry} {ep : Nat}, s₁.heap.get? b = some o → o.data = .dict es ep → H b = none := by
      intro b o es ep e d
      match q : H b with
      | none => rfl
      | some u =>
        have e' := hA b (by rw [q]; simp)
        subst e'
        rw [ha] at e
        cases e
        exact absurd d (by simp)
    have nsK : ∀ {b : Addr} {m : Str → Option Value}, s₁.heap.Ns b m → (hidT s₁.heap H).Ns b m := fun ⟨o, es, ep, e, d, r⟩ => ⟨o, es, ep, hidT_get e (dictless e d), d, r⟩
    have hKb : K.In (hidT s₁.heap H) := by
      intro b o e
      refine hidT_get (KX b o e) ?_
      match q : H b with
      | none => rfl
      | some u =>
        have e' := hA b (by rw [q]; simp)
        subst e'
        rw [hK (by rw [q]; simp)] at e
        cases e
    obtain ⟨mc, lim1, lim2⟩ := hlim
    have e0 : Env0 P w K mg (hidT s₁.heap H) callerA [] s₁ H :=
      ⟨rfl, ⟨hKb, nsK hns, ⟨mb, nsK hb, hbb⟩, ⟨mc, nsK lim1, lim2⟩⟩, fun _ _ e => of_hidT e, Nat.le_of_eq (hidT_size _ _), trivial, fun b z => absurd (show b ∈ ([] : List Addr) from z) (by simp), hok, .of_eq hg⟩
    refine codeAny_mono ((F _ hKb (nsK hns)).go callerA [] s₁ H ⟨[.ref a], []⟩ [.ref a] [.ref a] _ _ rfl hr e0 (hbind s₁ (.ref a)) (.cons rfl .nil) (hsp H hO hS)) fun r s' h => ?_
    match r, h with
    | .error e, h => exact (hCX H e s' h).elim
    | .ok (.ret u), ⟨v, H', os, bare, un, hok', r', q⟩ =>
      have q' : v = .bl true := q
      subst q'
      have eu : u = Value.bool true := r'
      subst eu
      refine ⟨rfl, OldK.of_keep fun b o e => ?_, os, bare⟩
      match q : H b with
      | none => exact un.keep b o e q (fun z => absurd (show b ∈ ([] : List Addr) from z) (by simp)) (by simp)
      | some u =>
        rcases hO b with z | ⟨ob, xs, z⟩
        · rw [q] at z
          cases z
        · have e1 := (hok b _ z).1
          have e2 := (hok' b _ (un.frzs b ob _ z)).1
          rw [e] at e1
          cases e1
          exact e2
  match hk : K.lookup a with
  | some o =>
    have e := KX a o hk
    rw [ha] at e
    cases e
    exact core (fun _ => none) (fun _ => .inl rfl) (.inr ⟨_, vs.toArray, _, hk, rfl, rfl, rfl, by rw [List.size_toArray, lenV]; exact hl, by simpa using rv⟩) (fun b u z => by have z' : (none : Option HO) = some u := z; cases z') (fun b z => absurd rfl z) fun z => absurd rfl z
  | none =>
    have at_a : ∀ b, b = a → (fun c => if c = a then some (HO.frz { cls := .type "list", data := .seq vs.toArray } (.lst (ns.map V.int))) else none : Hp) b = some (.frz { cls := .type "list", data := .seq vs.toArray } (.lst (ns.map V.int))) := fun b hb => if_pos hb
    have off_a : ∀ b, b ≠ a → (fun c => if c = a then some (HO.frz { cls := .type "list", data := .seq vs.toArray } (.lst (ns.map V.int))) else none : Hp) b = none := fun b hb => if_neg hb
    refine core (fun c => if c = a then some (HO.frz { cls := .type "list", data := .seq vs.toArray } (.lst (ns.map V.int))) else none) (fun b => ?_) (.inl (.inr ⟨_, at_a a rfl⟩)) (fun b u z => ?_) (fun b z => ?_) fun _ => hk
    · by_cases hb : b = a
      · exact .inr ⟨_, _, at_a b hb⟩
      · exact .inl (off_a b hb)
    · by_cases hb : b = a
      · rw [at_a b hb] at z
        cases z
        subst hb
        exact ⟨ha, by rw [List.length_map]; exact hl, vs, _, rv, ha⟩
      · rw [off_a b hb] at z
        cases z
    · by_cases hb : b = a
      · exact hb
      · exact absurd (off_a b hb) z
theorem walk_ofG {l : PySem.W.OpenLaw} {n k : Nat} {q : Program} {loose : List Str} {XP : (Str → Option Value) → Heap → Prop} {YP : World → Heap → Prop} {d : DefRec} {K : Params → PySem.W.Frag} {CX : World → CXT} {sp : World → Sp} {x : Str}
    (hn : l.most = some n) (hn2 : n ≤ sizeLine) (hdf : d.params.defaults = []) (hr : Room k callerA) (hY : ∀ (w : World) (h : Heap), YP w h → (K w.params).In h)
    (F : ∀ (w : World) (mg : Str → Option Value) (fa : Addr) (h : Heap), (K w.params).In h → h.Ns mainGlobals mg → mg d.name = some (.ref fa) →
      ∃ fd : FuncData, (∀ (s : Shared) (u : Value), BindsTo s fd ⟨[u], []⟩ [(x, u)]) ∧ ∀ base : Heap, (K w.params).In base → base.Ns mainGlobals mg → FnG l.prog w (K w.params) mg base (CX w) k fa fd [x] (sp w))
    (hsp : ∀ (w : World) (H : Hp) (a : Addr) (ns : List Int), ns.length ≤ n → Only H → SqL (K w.params) H a (ns.map V.int) → sp w [.ref a] H (fun v _ => v = .bl true) fun _ _ _ => False)
    (hCX : ∀ (w : World) (H : Hp) (s : Shared) (e : Value) (s' : Shared), CX w [] H s (fun _ _ _ => False) e s' → False) : PySem.W.WalkO q loose XP YP l.row.toRowW d [] (fun f vs => PySem.call f vs) := by
  refine Att.attach_call hn hdf ?_
  intro w s₀ s₁ mg mb fa o pm cd doc a vs ns G Y _ _ _ hmg hobj hints hlen hg
  obtain ⟨fd, hb, hF⟩ := F w mg fa _ (hY w _ Y) G.T.g hmg
  exact law_callG (hY w _ Y) G.T.g G.T.b G.T.builtins G.T.nolimit hg hobj hints (Nat.le_trans hlen hn2) hr hF hb (fun H hO hS => hsp w H a ns hlen hO hS) (hCX w · s₁ · ·)
/-! ### repr of data -/
def rRepr (K : PySem.W.Frag) : List V → Hp → VK → Prop := fun vs H Q => ∃ (x : V) (d : PyData), vs = [x] ∧ Dp K H x d ∧ isDisplay d = true ∧ d.showable = true ∧ d.hasDict = false ∧ d.depth ≤ 60 ∧ d.shown.length ≤ sizeLine ∧ Q (.str d.shown) H
section
variable {X : Cx}
theorem call_reprD (sh : Shut X.A) (hu : X.A.units + 64 < cLine) : CallR X (.builtin "repr") (rRepr X.K) := by
  intro pins s σ H vs us Q I r h
  obtain ⟨x, d, rfl, hd, di, sw, nd, dep, len, q⟩ := h
  obtain ⟨u, rfl, rx⟩ := vals1 r
  obtain ⟨as, r1⟩ := Dp.reads I d x u hd rx
  obtain ⟨a, rfl⟩ := isRef_of_reads r1 di
  exact repr_of_reads' r1 sw (PyData.noDict_hsm nd) sh (by omega) (fun _ _ e => e) (fun h' u tk hk => ⟨.str d.shown, H, I.kept hk, ⟨u, rfl⟩, q⟩) len
end
end HG
/-! Own short words. -/
namespace HB
open PySem PySem.Spec PyProof.Rows L2
/-- a def of the top, bound under its name -/
structure Df (K : PySem.W.Frag) (mg : Str → Option Value) (nm qual : Str) (st : Stmt) (ps : List Str) (f : Addr) (fd : FuncData) : Prop where
  F : Fun K nm qual st f fd
  b : L2.Binds K fd ps []
  g : mg nm = some (.ref f)
section
variable {X : Cx} {k : Nat} {f : Addr} {fd : FuncData} {ps : List Str} {sp : Sp} {x qual : Str} {st : Stmt} {p pos : Pos} {e : Expr} {es : List Expr} {t : TA}
theorem pcall (D : Df X.K X.mg x qual st ps f fd) (G : FnOk X.prog X.w X.K X.mg X.base CX0 k f fd ps sp) (hr : Room k X.A) (hg : Gl X x) (ha : PA X (e :: es) t) (hdb : (x == ("__debug__" : Str)) = false := by decide)
    (he : starEach (e :: es) X.env = (false, eval e X.env) :: starEach es X.env := by rfl) (hpl : (backTo pos (starEach es X.env)).any (·.1) = false := by rfl) : PE X (.Call (.Name x p) (e :: es) [] pos) (tCall sp [] E0 t) :=
  pe_call G hr hg D.g D.F.kp D.b .nil pass0 ha hdb he hpl
theorem pcall0 (D : Df X.K X.mg x qual st ps f fd) (G : FnOk X.prog X.w X.K X.mg X.base CX0 k f fd ps sp) (hr : Room k X.A) (hg : Gl X x) (hdb : (x == ("__debug__" : Str)) = false := by decide) : PE X (.Call (.Name x p) [] [] pos) (tCall sp [] E0 tNil) :=
  pe_call0 G hr hg D.g D.F.kp D.b .nil pass0 hdb
theorem gcall (D : Df X.K X.mg x qual st ps f fd) (G : HG.FnG X.prog X.w X.K X.mg X.base CX0 k f fd ps sp) (sh : HG.Shut X.A) (hr : Room k X.A) (hg : Gl X x) (ha : PA X (e :: es) t) (hdb : (x == ("__debug__" : Str)) = false := by decide)
    (he : starEach (e :: es) X.env = (false, eval e X.env) :: starEach es X.env := by rfl) (hpl : (backTo pos (starEach es X.env)).any (·.1) = false := by rfl) : PE X (.Call (.Name x p) (e :: es) [] pos) (tCall sp [] E0 t) :=
  HG.pe_callG G sh hr hg D.g D.F.kp D.b .nil pass0 ha hdb he hpl
/-- a written text or number of the module -/
theorem pe_gs {z : Str} (hg : Gl X x) (hm : ∃ t : Tok, X.mg x = some (.str z t)) (hdb : (x == ("__debug__" : Str)) = false := by decide) : PE X (.Name x pos) (tC (.str z)) := let ⟨t, h⟩ := hm; pe_glob hg h ⟨t, rfl⟩ (hd := hdb)
theorem pe_gi {i : Int} (hg : Gl X x) (hm : ∃ t : Tok, X.mg x = some (.int i t)) (hdb : (x == ("__debug__" : Str)) = false := by decide) : PE X (.Name x pos) (tC (.int i)) := let ⟨t, h⟩ := hm; pe_glob hg h ⟨t, rfl⟩ (hd := hdb)
theorem pe_gr {a : Addr} (hg : Gl X x) (hm : X.mg x = some (.ref a)) (hdb : (x == ("__debug__" : Str)) = false := by decide) : PE X (.Name x pos) (tC (.ref a)) := pe_glob hg hm rfl (hd := hdb)
end
/-! ### heaps -/
theorem same_upd {H : Hp} {p : Addr} {o : HO} (h : H p = none) : Same H (upd H p o) := fun b x e => by
  rw [upd_ne (ne_of_none e h)]
  exact e
theorem _root_.L2.Same.sqt {K : PySem.W.Frag} {H H' : Hp} {a : Addr} {xs : List V} (e : Same H H') (h : SqT K H a xs) : SqT K H' a xs := Evl.ex_t e h
theorem _root_.L2.Same.own {H H' : Hp} {D : Addr} {o : HO} (e : Same H H') (n : H D = none) : Same H (upd H' D o) := fun b x hb => by
  rw [upd_ne (ne_of_none hb n)]
  exact e _ _ hb
theorem sl {K : PySem.W.Frag} {H : Hp} {a : Addr} {xs : List V} (h : H a = some (.lst xs)) : SqL K H a xs := .inl (.inl h)
theorem stt {K : PySem.W.Frag} {H : Hp} {a : Addr} {xs : List V} (h : H a = some (.tup xs)) : SqT K H a xs := .inl (.inl h)
theorem ite1 {b : Bool} {A B : Prop} (e : b = true) (h : A) : if b = true then A else B := by rw [if_pos e]; exact h
theorem ite0 {b : Bool} {A B : Prop} (e : b = false) (h : B) : if b = true then A else B := by rw [if_neg (by rw [e]; decide)]; exact h
mutual
theorem _root_.L2.Same.dp {K : PySem.W.Frag} {H H' : Hp} (e : Same H H') : ∀ {v : V} {d : PyData}, Dp K H v d → Dp K H' v d
  | _, _, .non => .non
  | _, _, .bl b => .bl b
  | _, _, .int i => .int i
  | _, _, .str x => .str x
  | _, _, .lst h k => .lst (e.seq h) (L2.Same.dpAll e k)
  | _, _, .tup h k => .tup (L2.Same.sqt e h) (L2.Same.dpAll e k)
theorem _root_.L2.Same.dpAll {K : PySem.W.Frag} {H H' : Hp} (e : Same H H') : ∀ {vs : List V} {ds : List PyData}, DpAll K H vs ds → DpAll K H' vs ds
  | _, _, .nil => .nil
  | _, _, .cons h k => .cons (L2.Same.dp e h) (L2.Same.dpAll e k)
end
/-! ### a def that calls itself: by the depth -/
section
variable {P : Program} {w : World} {K : PySem.W.Frag} {mg : Str → Option Value} {base : Heap} {CX : CXT} {f : Addr} {fd : FuncData} {ps : List Str}
def spR (sp : Nat → Sp) : Nat → Sp
  | 0 => fun _ _ _ _ => False
  | n + 1 => sp n
theorem rec_fn {sp : Nat → Sp} {c : Nat} (step : ∀ n, FnOk P w K mg base CX (n + c) f fd ps (spR sp n) → FnOk P w K mg base CX (n + c + 1) f fd ps (sp n)) : ∀ n, FnOk P w K mg base CX (n + c + 1) f fd ps (sp n)
  | 0 => step 0 ⟨fun _ _ _ _ h => h.elim, fun _ _ _ _ _ _ _ _ _ _ _ _ _ h => h.elim⟩
  | n + 1 => step (n + 1) (by
    have h := rec_fn step n
    rwa [show n + c + 1 = n + 1 + c by omega] at h)
end
end HB
namespace HX
open PySem PySem.Spec PySem.Calls PyProof.Rows L2
/-- d.update(e) of another dict -/
def tDUpd (td te : TE) : TE := fun σ H Q => td σ H fun x H1 => ∃ a, x = .ref a ∧ IsD H1 a ∧ te σ H1 fun y H2 => ∃ (b : Addr) (kvs more : List (Key × V)), y = .ref b ∧ a ≠ b ∧ H2 a = some (.dK kvs) ∧ H2 b = some (.dK more) ∧
  kvs.length + more.length ≤ sizeLine ∧ Q .non (upd H2 a (.dK (mergeK kvs more)))
section
variable {X : Cx} {o e : Expr} {td te : TE} {apos cpos : Pos}
theorem pe_dupd (ho : PE X o td) (he : PE X e te) (m : M1 X o "update" apos e cpos) : PE X (.Call (.Attribute o "update" apos) [e] [] cpos) (tDUpd td te) := by
  refine ⟨fun pins s σ H Q I h => ?_⟩
  refine wpAny_Call_method m.base m.few m.line PySem.F.plainAttrs_dict PySem.F.slot_dict_update PySem.F.type_dict_update (thn (ho.run pins s σ H _ I h) fun u s1 ⟨x, H1, I1, rx, a, ex, d, q1⟩ => ?_)
  subst ex
  obtain rfl : u = Value.ref a := rx
  obtain ⟨t1, t2, _⟩ := isD_at I1 d
  refine ⟨t1, t2, ?_⟩
  rw [m.trees]
  refine Calls.callWith_builtin rfl (Calls.evalArgs_plain (Calls.spliced_cons (thn (he.run pins s1 σ H1 _ I1 q1) fun iv s2 ⟨y, H2, I2, ry, b, kvs, more, ey, hab, ea, eb, hl, q⟩ => Calls.spliced_nil ?_)))
  subst ey
  obtain rfl : iv = Value.ref b := ry
  obtain ⟨za, ya, vs, rel, da⟩ := dk_of I2.hok ea
  obtain ⟨zb, yb, us, rel2, db⟩ := dk_of I2.hok eb
  have e1 := rel.length
  have e2 := rel2.length
  refine call_meetsIn PySem.F.slot_dict_update da.typeIs PySem.F.entry_dict_update (PySem.F.args_dict_update_2 _ _) (meets_dict_update (mixKind X.prog X.w) a b hab yb)
    ⟨vs, us, da, db, by omega, fun h' dd' _ hs => ?_⟩
  have hl2 : (mergeK kvs more).length ≤ sizeLine := Nat.le_trans (length_mergeK more kvs) hl
  have hex : ∃ q, h'.get? a = some q := let ⟨q, _, _, hq, _⟩ := dd'; ⟨q, hq⟩
  exact ⟨.non, _, d_write (t' := s2.toks) I2 (by rw [ea]; exact True.intro) hs hex (dk_new hl2 ya (KV.merge rel2 rel) dd'), rfl, q⟩
end
end HX
/-! sum(lists, []) -/
namespace HX
open PySem PySem.Spec PySem.Calls PyProof.Rows L2
open Sem (wp)
abbrev lo (its : List Value) (n : Nat) : Obj := { cls := .type "list", data := .seq its.toArray n }
section
variable {prog : Program} {w : World} {A : Around} {R : Result → Shared → Prop}
/-- the places of lists, and what they hold -/
inductive Lists (h : Heap) : List Addr → List (List Value) → Prop
  | nil : Lists h [] []
  | cons {b : Addr} {its : List Value} {n : Nat} {bs : List Addr} {xs : List (List Value)} : h.get? b = some (lo its n) → Lists h bs xs → Lists h (b :: bs) (its :: xs)
theorem Lists.keeps {h h' : Heap} {bs : List Addr} {xs : List (List Value)} (L : Lists h bs xs) (k : ∀ b o, b ∈ bs → h.get? b = some o → h'.get? b = some o) : Lists h' bs xs := by
  induction L with
  | nil => exact .nil
  | cons e _ ih => exact .cons (k _ _ (List.mem_cons_self ..) e) (ih fun b o hb => k b o (List.mem_cons_of_mem _ hb))
theorem sum_loop (hh : A.handled = none) (I l S : Addr) (all : List Addr) (hIl : l ≠ I) (hSI : S ≠ I) (hSl : S ≠ l) :
    ∀ (bs : List Addr) (xs : List (List Value)) (pre : List Addr) (s : Shared) (T : Addr) (acc : List Value) (m c : Nat) (N : Nat), all = pre ++ bs → N ≤ s.heap.objs.size → I ∉ bs → S ∉ bs →
      s.heap.IsListIter I l pre.length → s.heap.IsList l (all.map Value.ref).toArray → Lists s.heap bs xs → s.heap.get? S = some { cls := .type "list", dict := none, data := .seq #[.ref T] c, slots := #[] } → s.heap.get? T = some (lo acc m) →
      T ≠ S → T ≠ I → (acc ++ xs.flatten).length ≤ sizeLine →
      (∀ (h' : Heap) (T' : Addr) (m' : Nat), (∀ b o, b ≠ I → b ≠ S → s.heap.get? b = some o → h'.get? b = some o) → ((bs = [] ∧ T' = T) ∨ N ≤ T') → h'.get? T' = some (lo (acc ++ xs.flatten) m') → R (.ok (.ret (.ref T'))) { s with heap := h' }) →
      codeAny (model prog w) A (.builtin "sum.loop" ⟨[.ref I, .ref S, rawInt 2, rawInt 0], []⟩) R s := by
  intro bs
  induction bs with
  | nil =>
    intro xs pre s T acc m c N hall hN hI hS hit hl hL hSo hTo hTS hTI hz hR
    cases hL
    refine codeAny_builtin F.entry_sum_loop ?_
    rw [Around.under_plainId F.plain_sum_loop _]
    show wpAny _ A.in1 (seqItems? (.ref S) >>= _) _ _ s
    refine wpAny_bind (wpAny_seqItems hSo rfl ?_)
    show wpAny _ A.in1 (tryCatch (pyNext (.ref I)) _ >>= _) _ _ s
    refine wpAny_bind (wpAny_tryCatch (wpAny_pyNext_list_end hh hit hl (by rw [hall]; simp) fun h' he => ?_))
    refine wpAny_pure (hR h' T m (fun b o hb _ e => he b o hb e) (.inl ⟨rfl, rfl⟩) ?_)
    simpa using he T _ hTI hTo
  | cons b bs ih =>
    intro xs pre s T acc m c N hall hN hI hS hit hl hL hSo hTo hTS hTI hz hR
    cases hL with
    | cons hb hL =>
    rename_i its n xs
    refine codeAny_builtin F.entry_sum_loop ?_
    rw [Around.under_plainId F.plain_sum_loop _]
    show wpAny _ A.in1 (seqItems? (.ref S) >>= _) _ _ s
    refine wpAny_bind (wpAny_seqItems hSo rfl ?_)
    show wpAny _ A.in1 (tryCatch (pyNext (.ref I)) _ >>= _) _ _ s
    refine wpAny_bind (wpAny_tryCatch (wpAny_pyNext_list_item hit hl (x := .ref b) (by rw [hall]; simp) fun h' hit' hs' => ?_))
    have bI : b ≠ I := fun z => hI (by rw [z]; exact List.mem_cons_self ..)
    have bS : b ≠ S := fun z => hS (by rw [z]; exact List.mem_cons_self ..)
    have hI' : I ∉ bs := fun z => hI (List.mem_cons_of_mem _ z)
    have hS' : S ∉ bs := fun z => hS (List.mem_cons_of_mem _ z)
    have eT : h'.get? T = some (lo acc m) := (hs'.2 T hTI).trans hTo
    have eb : h'.get? b = some (lo its n) := (hs'.2 b bI).trans hb
    have eS := (hs'.2 S hSI).trans hSo
    have size1 : (acc ++ its).length ≤ sizeLine := by
      simp only [List.flatten_cons, List.length_append] at hz ⊢
      omega
    show wpAny _ A.in1 ((holding [Value.ref b] (binaryOp .Add (.ref T) (.ref b))).attempt >>= _) _ _ _
    refine wpAny_bind (wpAny_attempt (wpAny_holding (PySem.P.add_list eT eb ?_ (by rw [List.size_toArray, List.size_toArray, ← List.length_append]; exact size1))))
    have ea : acc.toArray ++ its.toArray = (acc ++ its).toArray := by simp
    rw [ea]
    have eS2 : (h'.push (lo (acc ++ its) 0)).get? S = some { cls := .type "list", dict := none, data := .seq #[.ref T] c, slots := #[] } := Heap.get?_push_of_some _ eS
    show wpAny _ A.in1 (updateSeq S (fun _ => #[.ref h'.objs.size]) >>= _) _ _ _
    refine wpAny_bind (wpAny_updateSeq eS2 rfl ?_)
    refine wpAny_bind (wpAny_letGo ?_)
    have T1 : h'.objs.size ≠ S := Ne.symm (Nat.ne_of_lt (Heap.lt_size eS))
    have T2 : h'.objs.size ≠ I := Ne.symm (Nat.ne_of_lt (by obtain ⟨_, e, _⟩ := hit'; exact Heap.lt_size e))
    have eS3 := Heap.get?_update_self (Obj.mapSeq fun _ => #[Value.ref h'.objs.size]) eS2 rfl
    have kept : ∀ b o, b ≠ S → h'.get? b = some o → (((h'.push (lo (acc ++ its) 0)).update S (Obj.mapSeq fun _ => #[Value.ref h'.objs.size])).update S (Obj.mapSeq fun _ => #[Value.ref h'.objs.size])).get? b = some o := fun b o h1 e =>
      (Heap.get?_update_other _ _ (Ne.symm h1)).trans ((Heap.get?_update_other _ _ (Ne.symm h1)).trans (Heap.get?_push_of_some _ e))
    show wpAny _ A.in1 (updateSeq S (fun _ => #[.ref h'.objs.size]) >>= _) _ _ _
    refine wpAny_bind (wpAny_updateSeq eS3 rfl ?_)
    refine wpAny_pure ⟨plainId_quiet F.plain_sum_loop _, ih xs (pre ++ [b]) _ h'.objs.size (acc ++ its) 0 _ N (by rw [hall]; simp) ?_ hI' hS' ?_ ?_ ?_ (Heap.get?_update_self _ eS3 rfl) ?_ T1 T2 (by simpa using hz) ?_⟩
    · rw [Heap.size_update, Heap.size_update, Heap.size_push, hs'.1]; omega
    · rw [List.length_append]
      exact hit'.at fun o e => kept _ _ (Ne.symm hSI) e
    · exact hl.at fun o e => kept _ _ (Ne.symm hSl) ((hs'.2 l hIl).trans e)
    · exact hL.keeps fun b o hb e => kept _ _ (fun z => hS' (z ▸ hb)) ((hs'.2 b (fun z => hI' (z ▸ hb))).trans e)
    · exact (Heap.get?_update_other _ _ (Ne.symm T1)).trans ((Heap.get?_update_other _ _ (Ne.symm T1)).trans (Heap.get?_push_size _ rfl))
    · intro h2 T' m' k hN' e
      refine hR h2 T' m' (fun b o h1 h3 eo => k b o h1 h3 (kept b o h3 ((hs'.2 b h1).trans eo))) (.inr ?_) (by simpa using e)
      rcases hN' with ⟨_, rfl⟩ | hN'
      · rw [hs'.1]; exact hN
      · exact hN'
end
theorem args_sum2 (a b : Value) : argsOk "sum" ⟨[a, b], []⟩ := by unfold argsOk; kernel_rfl
section
variable {X : Cx}
theorem vals_refs : ∀ {bs : List Addr} {us : List Value}, Vals (bs.map V.ref) us → us = bs.map Value.ref := fun h => refs_at h
/-- sum(lists, z): some new list -/
def rSumL (K : PySem.W.Frag) : List V → Hp → VK → Prop := fun vs H Q => ∃ (l z : Addr) (bs : List Addr) (xss : List (List V)), vs = [.ref l, .ref z] ∧ H l = some (.lst (bs.map V.ref)) ∧ H z = some (.lst []) ∧ bs ≠ [] ∧
  Paired (fun b xs => H b = some (.lst xs)) bs xss ∧ xss.flatten.length ≤ sizeLine ∧ ∀ p, H p = none → Q (.ref p) (upd H p (.lst xss.flatten))
theorem lists_of {P : Program} {w : World} {H : Hp} {h : Heap} (ok : HOk P w H h) : ∀ {bs : List Addr} {xss : List (List V)}, Paired (fun b xs => H b = some (.lst xs)) bs xss → ∃ its : List (List Value), Lists h bs its ∧ Vals xss.flatten its.flatten
  | _, _, .nil => ⟨[], .nil, .nil⟩
  | _, _, .cons e t => by
    obtain ⟨its, L, r⟩ := lists_of ok t
    obtain ⟨_, it, n, rv, eo⟩ := ok _ _ e
    exact ⟨it :: its, .cons eo L, by rw [List.flatten_cons, List.flatten_cons]; exact rv.append r⟩
theorem call_sumL (hcalm : X.calm = true) : CallR X (.builtin "sum") (rSumL X.K) := by
  intro pins s σ H vs us Q I r h
  obtain ⟨l, z, bs, xss, rfl, hl, hz, hne, hp, hsz, q⟩ := h
  obtain ⟨u1, u2, rfl, r1, r2⟩ := vals2 r
  cases r1
  cases r2
  obtain ⟨_, it, n, rv, hll, el⟩ := I.lstM hl
  obtain ⟨_, itz, nz, rz, hlz, ez⟩ := I.lstM hz
  have e1 := refs_at rv
  subst e1
  cases rz
  obtain ⟨its, L, rvs⟩ := lists_of I.hok hp
  refine call_function_tree F.kind_sum F.plain_sum F.entry_sum (args_sum2 _ _) ?_
  unfold Builtin.«sum»
  simp only [List.length_cons, List.length_nil]
  rw [if_neg (by decide)]
  refine wpAny_bind (wpAny_of_eq (show Builtin.Builtins.bindParams "sum" ["start"] 0 ⟨[.ref z], []⟩ = pure [some (.ref z)] from rfl) ?_)
  have hL : s.heap.IsList l (bs.map Value.ref).toArray := ⟨_, el, rfl, n, rfl⟩
  refine wpAny_bind (wpAny_pyIter_list hL ?_)
  refine wpAny_bind (wpAny_pure ?_)
  simp only [List.forIn_cons, List.forIn_nil]
  have ez2 : ({ s with heap := s.heap.push { cls := .type "list_iterator", data := .fields #[.ref l, .int 0 0] } } : Shared).TypeIs (.ref z) "list" := ⟨_, Heap.get?_push_of_some _ ez, rfl⟩
  refine wpAny_bind (wpAny_bind (wpAny_bind (wpAny_isInstance (T := "list") (b := false) ez2 F.sub_list_str ?_)))
  simp only [Bool.false_eq_true, if_false]
  refine wpAny_pure (wpAny_bind (wpAny_bind (wpAny_isInstance (T := "list") (b := false) ez2 F.sub_list_bytes ?_)))
  simp only [Bool.false_eq_true, if_false]
  refine wpAny_pure (wpAny_bind (wpAny_bind (wpAny_isInstance (T := "list") (b := false) ez2 F.sub_list_bytearray ?_)))
  simp only [Bool.false_eq_true, if_false]
  refine wpAny_pure (wpAny_pure ?_)
  refine wpAny_bind (wpAny_newObj_type ?_)
  have zl : z < s.heap.objs.size := Heap.lt_size ez
  have ll : l < s.heap.objs.size := Heap.lt_size el
  have sz1 : (s.heap.push { cls := .type "list_iterator", data := .fields #[.ref l, .int 0 0] }).objs.size = s.heap.objs.size + 1 := Heap.size_push ..
  have bl : ∀ b ∈ bs, b < s.heap.objs.size := fun b hb => by
    have : ∀ {cs : List Addr} {ys : List (List Value)}, Lists s.heap cs ys → ∀ c ∈ cs, c < s.heap.objs.size := fun {cs ys} L => by
      induction L with
      | nil => intro c hc; cases hc
      | cons e _ ih =>
        intro c hc
        rcases List.mem_cons.mp hc with rfl | hc
        · exact Heap.lt_size e
        · exact ih c hc
    exact this L b hb
  refine wpAny_pure ⟨plainId_quiet F.plain_sum_loop _, ?_⟩
  dsimp only
  rw [sz1]
  refine sum_loop (I.ok.hd hcalm) s.heap.objs.size l (s.heap.objs.size + 1) bs (Nat.ne_of_lt ll) (Nat.succ_ne_self _) (Nat.ne_of_lt (Nat.lt_succ_of_lt ll)).symm bs its [] _ z [] nz 0 s.heap.objs.size rfl ?_ (fun hb => Nat.lt_irrefl _ (bl _ hb)) (fun hb => Nat.lt_irrefl _ (Nat.lt_trans (Nat.lt_succ_self _) (bl _ hb))) ?_ ?_ ?_ ?_ ?_ (Nat.ne_of_lt (Nat.lt_succ_of_lt zl)) (Nat.ne_of_lt zl) ?_ ?_
  · show s.heap.objs.size ≤ ((s.heap.push _).push _).objs.size
    rw [Heap.size_push, sz1]
    exact Nat.le_trans (Nat.le_succ _) (Nat.le_succ _)
  · exact ⟨_, Heap.get?_push_of_some _ (Heap.get?_push_size _ rfl), rfl, rfl⟩
  · exact hL.at fun o e => Heap.get?_push_of_some _ (Heap.get?_push_of_some _ e)
  · exact L.keeps fun b o _ e => Heap.get?_push_of_some _ (Heap.get?_push_of_some _ e)
  · have := Heap.get?_push_size (s.heap.push { cls := .type "list_iterator", data := .fields #[.ref l, .int 0 0] }) (o := { cls := .type "list", data := .seq #[.ref z] }) rfl
    rwa [sz1] at this
  · exact Heap.get?_push_of_some _ (Heap.get?_push_of_some _ ez)
  · rw [List.nil_append, ← rvs.length]; exact hsz
  · intro h' T' m' k hN e
    rcases hN with ⟨z, _⟩ | hN
    · exact absurd z hne
    · rw [List.nil_append] at e
      refine ⟨.ref T', upd H T' (.lst xss.flatten), I.laid (t' := s.toks) (fun b u eb => k b u (Nat.ne_of_lt (Heap.lt_size eb)) (Nat.ne_of_lt (Nat.lt_succ_of_lt (Heap.lt_size eb))) (Heap.get?_push_of_some _ (Heap.get?_push_of_some _ eb))) hN ⟨hsz, its.flatten, m', rvs, e⟩, rfl, q _ (I.hok.fresh hN)⟩
end
end HX
/-! draws kept in a list of three ints; what stands beside them -/
namespace HU
open PySem PySem.Spec PyProof.Rows L2 HB TL
abbrev dr (x y z : Int) : HO := .lst [.int x, .int y, .int z]
/-- the draws stand at d, n of them drawn at most -/
def DL (H : Hp) (d : Addr) (n : Nat) : Prop := ∃ x y z : Int, H d = some (dr x y z) ∧ 0 ≤ z ∧ z ≤ n
/-- all but d stand -/
def U1 (d : Addr) (H H' : Hp) : Prop := ∀ b o, H b = some o → b ≠ d → H' b = some o
section
variable {d : Addr} {H H' H'' : Hp} {K : PySem.W.Frag} {n m : Nat}
theorem U1.refl (H : Hp) : U1 d H H := fun _ _ h _ => h
theorem U1.trans (a : U1 d H H') (b : U1 d H' H'') : U1 d H H'' := fun x o h h1 => b x o (a x o h h1) h1
theorem U1.of (s : Same H H') : U1 d H H' := fun b o h _ => s b o h
theorem U1.set (u : U1 d H H') {o : HO} : U1 d H (upd H' d o) := fun x y h h1 => by
  rw [upd_ne h1]
  exact u x y h h1
theorem U1.own (u : U1 d H H') {b : Addr} {o : HO} (n : H b = none) : U1 d H (upd H' b o) := fun x y h h1 => by
  rw [upd_ne (ne_of_none h n)]
  exact u x y h h1
theorem DL.same (D : DL H d n) (s : Same H H') : DL H' d n := let ⟨x, y, z, h, r⟩ := D; ⟨x, y, z, s _ _ h, r⟩
theorem DL.mono (D : DL H d n) (h : n ≤ m) : DL H d m := let ⟨x, y, z, h1, h2, h3⟩ := D; ⟨x, y, z, h1, h2, by omega⟩
theorem DL.set (D : DL H d n) {b : Addr} {o : HO} (hb : b ≠ d) : DL (upd H b o) d n := let ⟨x, y, z, h, r⟩ := D; ⟨x, y, z, by rw [upd_ne hb.symm]; exact h, r⟩
theorem DL.apart (D : DL H d n) {b : Addr} (h : H b = none) : b ≠ d := let ⟨_, _, _, h1, _⟩ := D; (ne_of_none h1 h).symm
theorem DL.ne (D : DL H d n) {b : Addr} {o : HO} (h : H b = some o) (ho : ∀ xs, o ≠ .lst xs) : b ≠ d := by
  rintro rfl
  obtain ⟨x, y, z, h1, _⟩ := D
  rw [h] at h1
  exact ho _ (Option.some.inj h1)
/-- tuples stand -/
theorem U1.sqt (u : U1 d H H') (D : DL H d n) {a : Addr} {xs : List V} (h : SqT K H a xs) : SqT K H' a xs := by
  rcases h with (h | ⟨o, h⟩) | h
  · exact .inl (.inl (u _ _ h (D.ne h fun _ z => by cases z)))
  · exact .inl (.inr ⟨o, u _ _ h (D.ne h fun _ z => by cases z)⟩)
  · exact .inr h
theorem U1.frz (u : U1 d H H') (D : DL H d n) {a : Addr} {o : Obj} {x : HO} (h : H a = some (.frz o x)) : H' a = some (.frz o x) := u _ _ h (D.ne h fun _ z => by cases z)
theorem U1.dk (u : U1 d H H') (D : DL H d n) {a : Addr} {kvs : List (Key × V)} (h : H a = some (.dK kvs)) : H' a = some (.dK kvs) := u _ _ h (D.ne h fun _ z => by cases z)
theorem U1.sql (u : U1 d H H') {a : Addr} {xs : List V} (hn : a ≠ d) (h : SqL K H a xs) : SqL K H' a xs := by
  rcases h with (h | ⟨o, h⟩) | h
  · exact .inl (.inl (u _ _ h hn))
  · exact .inl (.inr ⟨o, u _ _ h hn⟩)
  · exact .inr h
/-- a list apart from the draws: it is kept or it is another one -/
theorem sql_apart {a : Addr} {xs : List V} (h : SqL K H a xs) (D : DL H d n) (hx : ∀ x y z : Int, xs ≠ [.int x, .int y, .int z]) (hk : ∀ o, H a = some o → a ≠ d ∨ (∃ ys, o = .lst ys)) : (∀ o, SqL K (upd H d o) a xs) := by
  intro o
  rcases h with (h | ⟨q, h⟩) | h
  · by_cases e : a = d
    · subst e
      obtain ⟨x, y, z, h1, _⟩ := D
      rw [h] at h1
      exact absurd (HO.lst.inj (Option.some.inj h1)) (hx x y z)
    · exact .inl (.inl (by rw [upd_ne e]; exact h))
  · exact .inl (.inr ⟨q, by rw [upd_ne (D.ne h fun _ z => by cases z)]; exact h⟩)
  · exact .inr h
end
def sg (c : Nat) : Str := ⟨#[c]⟩
theorem joinL_sg : ∀ cs : List Nat, joinL [] (cs.map fun c => [c]) = cs
  | [] => rfl
  | [c] => rfl
  | c :: d :: r => by
    have ih := joinL_sg (d :: r)
    show [c] ++ [] ++ joinL [] ((d :: r).map fun c => [c]) = _
    rw [ih]
    rfl
theorem join_sg (cs : List Nat) : (Txt.join Str.empty (cs.map sg)).cps.toList = cs := by
  have h := tl_join Str.empty (cs.map sg)
  rw [← join_eq, List.map_map] at h
  exact h.trans (joinL_sg cs)
/-- what is picked from -/
def Pickd (K : PySem.W.Frag) (H : Hp) (x : V) (ys : List V) : Prop := (∃ l, x = .ref l ∧ SqL K H l ys) ∨ (∃ t, x = .ref t ∧ SqT K H t ys) ∨ ∃ z : Str, x = .str z ∧ z.length ≤ 100000 ∧ ys = z.cps.toList.map fun c => V.str (sg c)
/-! ### the law's list -/
theorem script_or {K : PySem.W.Frag} {a : Addr} {ns : List Int} {σ : L2.St} {H : Hp} {Q : VK} (h0 : σ[0]? = some (some (.ref a))) (hS : SqL K H a (ns.map V.int)) (hl : ns.length ≤ 63) (h : ∀ (b : Addr) (ms : List Int) (H1 : Hp), Same H H1 → SqL K H1 b (ms.map V.int) → ms.length ≤ 63 → Q (.ref b) H1) :
    tOrT K (tVar 0) (tLst (tCons (tC (.int 5)) tNil)) σ H Q := by
  refine ⟨_, h0, !(ns.map V.int).isEmpty, .inl ⟨_, hS, rfl⟩, ite2 (fun _ => h a ns H (Same.refl H) hS hl) fun _ => ⟨(by show 1 ≤ sizeLine; decide), fun p hp => h p [5] _ (same_upd hp) (.inl (.inl upd_same)) (by decide)⟩⟩
theorem cut_to (xs : List V) (n : Nat) : cutV xs none (some (n : Int)) = xs.take n := by
  unfold cutV
  rw [HT.sIx_none, HT.sIx_nat, List.drop_zero, Nat.sub_zero, List.take_eq_take_iff]
  omega
theorem cut_ints (ms : List Int) (n : Nat) : ∃ cs : List Int, cutV (ms.map V.int) none (some (n : Int)) = cs.map V.int ∧ cs.length ≤ n := by
  refine ⟨ms.take n, ?_, List.length_take_le _ _⟩
  unfold cutV
  rw [HT.sIx_none, HT.sIx_nat, List.length_map, List.drop_zero, List.map_take, Nat.sub_zero, List.take_eq_take_iff]
  simp only [List.length_map]
  omega
end HU
/-! the head with facts: defs, names, dicts of the top with text keys, and further tests of one's own (ex) -/
namespace HH
open PySem PySem.Spec PyProof.Rows L2 He
abbrev Ex : Type := PySem.W.Frag → Bool
abbrev AlX : Type := Bool × List FnW × List (Option (List (Option (Str × Int))))
def obsX (fa : List Fa) (fn : List DefD) (ex : List Ex) (ts : List Tab) (K : PySem.W.Frag) : AlX := ((fa.all fun f => f.ok K) && ((fn.all fun d => d.ok K) && ex.all fun e => e K), fn.map (fun d => fnW K d.at_), ts.map fun t => dicW K (t.1 K))
def valX (fn : List DefD) (ts : List Tab) (w : World) : AlX := (true, fn.map DefD.val, ts.map fun t => some (keysIn w.params t.2))
def SaysX (fa : List Fa) (fn : List DefD) (ex : List Ex) (ts : List Tab) (w : World) (K : PySem.W.Frag) : Prop := obsX fa fn ex ts K = valX fn ts w
def obsXG (n : Nat) (fa : List Fa) (fn : List DefD) (ex : List Ex) (ts : List Tab) (g : Addr → Option Obj) : AlX := obsX fa fn ex ts (frG g (PySem.sysModules :: PySem.cStatics :: asD g n))
def hookX (n : Nat) (fa : List Fa) (fn : List DefD) (ex : List Ex) (ts : List Tab) : PySem.W.Hook where
  α := AlX
  obs := fun s => obsXG n fa fn ex ts s.heap.get?
  val := fun w => valX fn ts w
  says := fun w h => ∃ K : PySem.W.Frag, K.In h ∧ SaysX fa fn ex ts w K
  of := fun _ _ e => ⟨_, frG_in, e⟩
  keeps := fun _ _ _ ⟨K, hK, c⟩ k => ⟨K, PySem.W.Frag.In.keeps hK k, c⟩
theorem obsXG_eq {n : Nat} {fa : List Fa} {fn : List DefD} {ex : List Ex} {ts : List Tab} {g : Addr → Option Obj} {s : Shared} (h : ∀ a, g a = s.heap.get? a) : obsXG n fa fn ex ts g = (hookX n fa fn ex ts).obs s := by
  have e : g = s.heap.get? := funext h
  rw [e] <;> rfl
section
variable {fa : List Fa} {fn : List DefD} {ex : List Ex} {ts : List Tab} {w : World} {K : PySem.W.Frag}
theorem SaysX.parts (c : SaysX fa fn ex ts w K) : (fa.all fun f => f.ok K) = true ∧ (fn.all fun d => d.ok K) = true ∧ (ex.all fun e => e K) = true := by
  have c1 := ba (show ((fa.all fun f => f.ok K) && ((fn.all fun d => d.ok K) && ex.all fun e => e K)) = true from congrArg (fun z : AlX => z.1) c)
  exact ⟨c1.1, ba c1.2⟩
theorem SaysX.fact (c : SaysX fa fn ex ts w K) (i : Nat) {f : Fa} (h : fa[i]? = some f := by rfl) : f.ok K = true := List.all_eq_true.mp c.parts.1 f (List.mem_of_getElem? h)
theorem SaysX.ex_ (c : SaysX fa fn ex ts w K) (i : Nat) {e : Ex} (h : ex[i]? = some e := by rfl) : e K = true := List.all_eq_true.mp c.parts.2.2 e (List.mem_of_getElem? h)
theorem SaysX.def_ (c : SaysX fa fn ex ts w K) (i : Nat) {d : DefD} (h : fn[i]? = some d := by rfl) : ∃ fd, FunD K d.name d.qual d.params d.body d.scope (d.dvs K) (d.kws K) (fAd K d.at_) fd := by
  have e : fn.map (fun d => fnW K d.at_) = fn.map DefD.val := congrArg (fun z : AlX => z.2.1) c
  have e2 : (fn.map fun d => fnW K d.at_)[i]? = (fn.map DefD.val)[i]? := by rw [e]
  rw [List.getElem?_map, List.getElem?_map, h] at e2
  exact DefD.funD (Option.some.inj e2) (List.all_eq_true.mp c.parts.2.1 d (List.mem_of_getElem? h))
theorem SaysX.dic (c : SaysX fa fn ex ts w K) (i : Nat) {t : Tab} (h : ts[i]? = some t := by rfl) : dicW K (t.1 K) = some (keysIn w.params t.2) := by
  have e : ts.map (fun t => dicW K (t.1 K)) = ts.map fun t => some (keysIn w.params t.2) := congrArg (fun z : AlX => z.2.2) c
  have e2 : (ts.map fun t => dicW K (t.1 K))[i]? = (ts.map fun t => some (keysIn w.params t.2))[i]? := by rw [e]
  rw [List.getElem?_map, List.getElem?_map, h] at e2
  exact Option.some.inj e2
end
/-! ### a def of no positional default -/
theorem funOf {K : PySem.W.Frag} {x qual : Str} {st : Stmt} {kws : List (Str × V)} {f : Addr} {fd : FuncData} (F : FunD K x qual (defArgs st) (defBody st) (defScope st) [] kws f fd) : Fun K x qual st f fd := by
  obtain ⟨oc, od, dV, kV, doc, pm, an, cdv, ct, osl, e, lk, hcd, hd, _⟩ := F.ex
  rcases hd with ⟨_, rfl⟩ | ⟨h, _⟩
  · exact ⟨⟨oc, od, kV, doc, pm, an, cdv, ct, osl, e, lk, hcd⟩, F.kp⟩
  · exact absurd rfl h
/-! ### dicts of the top -/
/-- a name that is no key -/
theorem dic_none {K : PySem.W.Frag} {P : Params} {a : Addr} {ks : List Str} (h : dicW K a = some (keysIn P ks)) {z : Str} (hz : z ∉ ks) : PySem.W.nsIn K a z = some none := by
  unfold dicW at h
  unfold PySem.W.nsIn
  cases q : K.lookup a with
  | none => rw [q] at h; cases h
  | some o =>
    obtain ⟨oc, od, dt, osl⟩ := o
    rw [q] at h
    cases oc with
    | type c =>
      cases od with
      | none =>
        cases dt with
        | dict es n =>
          have h1 : (match decide (c = "dict") && (osl.isEmpty && !(a == sysModules)) with
            | true => some (es.toList.map He.keyOf)
            | false => none) = some (keysIn P ks) := h
          cases y : decide (c = "dict") && (osl.isEmpty && !(a == sysModules)) with
          | false => rw [y] at h1; cases h1
          | true =>
            rw [y] at h1
            have h2 : es.toList.map He.keyOf = keysIn P ks := Option.some.inj h1
            have key : ∀ (l : List DictEntry) (ks : List Str), l.map He.keyOf = keysIn P ks → z ∉ ks → l.find? (·.key.isStr z) = none ∧ l.any (·.refKey) = false := by
              intro l
              induction l with
              | nil => intro ks _ _; exact ⟨rfl, rfl⟩
              | cons e r ih =>
                intro ks hk hz
                cases ks with
                | nil => cases hk
                | cons k ks =>
                  have hk1 : He.keyOf e :: r.map He.keyOf = some (k, PyData.keyHash P k) :: keysIn P ks := hk
                  injection hk1 with hk2 hk3
                  obtain ⟨i1, i2⟩ := ih ks hk3 (fun m => hz (List.mem_cons_of_mem _ m))
                  unfold He.keyOf at hk2
                  split at hk2
                  · rename_i x t ek
                    obtain ⟨ex, _⟩ := Prod.mk.inj (Option.some.inj hk2)
                    have ne : x ≠ z := fun e => hz (by rw [← e, ex]; exact List.mem_cons_self ..)
                    have s1 : e.key.isStr z = false := by
                      rw [ek]
                      exact beq_eq_false_iff_ne.mpr ne
                    have s2 : e.refKey = false := by
                      unfold DictEntry.refKey
                      rw [ek]
                    exact ⟨by rw [List.find?_cons, s1]; exact i1, by rw [List.any_cons, s2, i2]; rfl⟩
                  · cases hk2
            obtain ⟨k1, k2⟩ := key _ _ h2 hz
            show (match es.toList.find? (·.key.isStr z) with
              | some e => some (some e.val)
              | none => if es.toList.any (·.refKey) then none else some none) = some none
            rw [k1, k2]
            rfl
        | _ => cases h
      | some b => cases dt <;> cases h
    | _ => cases od <;> cases dt <;> cases h
/-- a dict's values are tuples of these -/
def dtB (x : Str) (kvs : List (Str × List Dv)) : Ex := fun K => kvs.all fun q => match PySem.W.nsIn K (ga K x) q.1 with
  | some (some (.ref t)) => (match K.lookup t with
    | some ⟨.type c, _, .seq its _, _⟩ => decide (c = "tuple") && (decide (its.size ≤ sizeLine) && relAll (q.2.map (Dv.v K)) its.toList)
    | _ => false)
  | _ => false
theorem dtB_ok {K : PySem.W.Frag} {x : Str} {kvs : List (Str × List Dv)} (h : dtB x kvs K = true) {q : Str × List Dv} (hq : q ∈ kvs) : ∃ t : Addr, PySem.W.nsIn K (ga K x) q.1 = some (some (.ref t)) ∧ ∀ H : Hp, SqT K H t (q.2.map (Dv.v K)) := by
  have h2 := List.all_eq_true.mp h q hq
  cases e : PySem.W.nsIn K (ga K x) q.1 with
  | none => rw [e] at h2; cases h2
  | some r =>
    rw [e] at h2
    cases r with
    | none => cases h2
    | some u =>
      cases u with
      | ref t =>
        refine ⟨t, rfl, fun H => ?_⟩
        have h3 : (match K.lookup t with
          | some ⟨.type c, _, .seq its _, _⟩ => decide (c = "tuple") && (decide (its.size ≤ sizeLine) && relAll (q.2.map (Dv.v K)) its.toList)
          | _ => false) = true := h2
        cases y : K.lookup t with
        | none => rw [y] at h3; cases h3
        | some o =>
          obtain ⟨oc, od, dt, osl⟩ := o
          rw [y] at h3
          cases oc with
          | type c =>
            cases dt with
            | seq its n =>
              obtain ⟨g1, g2⟩ := ba (show (decide (c = "tuple") && (decide (its.size ≤ sizeLine) && relAll (q.2.map (Dv.v K)) its.toList)) = true from h3)
              obtain ⟨g3, g4⟩ := ba g2
              exact .inr ⟨_, its, n, y, congrArg Value.type (of_decide_eq_true g1), rfl, of_decide_eq_true g3, relAll_ok g4⟩
            | _ => cases h3
          | _ => cases dt <;> cases h3
      | _ => cases h2
/-- what is known of a dict of the top whose values are tuples -/
structure DT (K : PySem.W.Frag) (w : World) (a : Addr) (kvs : List (Str × List V)) : Prop where
  kd : ∃ es n, KDict K w a es n
  miss : ∀ z : Str, z ∉ kvs.map (·.1) → PySem.W.nsIn K a z = some none
  there : ∀ q ∈ kvs, ∃ t : Addr, PySem.W.nsIn K a q.1 = some (some (.ref t)) ∧ ∀ H : Hp, SqT K H t q.2
theorem DT.of {K : PySem.W.Frag} {w : World} {x : Str} {kvs : List (Str × List Dv)} {ks : List Str} (h : dtB x kvs K = true) (hd : dicW K (ga K x) = some (keysIn w.params ks)) (e : kvs.map (·.1) = ks) {vs : List (Str × List V)} (ev : vs = kvs.map fun q => (q.1, q.2.map (Dv.v K)) := by rfl) : DT K w (ga K x) vs := by
  subst ev
  refine ⟨dicW_ok hd, fun z hz => dic_none hd fun m => hz ?_, fun q hq => ?_⟩
  · rw [List.map_map, show ((fun q : Str × List V => q.1) ∘ fun q : Str × List Dv => (q.1, q.2.map (Dv.v K))) = (fun q => q.1) from rfl, e]
    exact m
  · obtain ⟨p, hp, rfl⟩ := List.mem_map.mp hq
    exact dtB_ok h hp
/-- a keyword default that is an object -/
def kwAt (p : Str × Option Str) (x : Str) (K : PySem.W.Frag) : Addr := match K.lookup (fAd K p) with
  | some ⟨_, _, .func fd, _⟩ => (match fd.kwdefaults with
    | .ref D => (match PySem.W.nsIn K D x with
      | some (some (.ref a)) => a
      | _ => 0)
    | _ => 0)
  | _ => 0
def tpB (p : PySem.W.Frag → Addr) (vs : List Dv) : Ex := fun K => match K.lookup (p K) with
  | some ⟨.type c, _, .seq its _, _⟩ => decide (c = "tuple") && (decide (its.size ≤ sizeLine) && relAll (vs.map (Dv.v K)) its.toList)
  | _ => false
theorem tpB_ok {K : PySem.W.Frag} {p : PySem.W.Frag → Addr} {vs : List Dv} (h : tpB p vs K = true) (H : Hp) : SqT K H (p K) (vs.map (Dv.v K)) := by
  unfold tpB at h
  cases q : K.lookup (p K) with
  | none => rw [q] at h; cases h
  | some o =>
    obtain ⟨oc, od, dt, osl⟩ := o
    rw [q] at h
    cases oc with
    | type c =>
      cases dt with
      | seq its n =>
        obtain ⟨h1, h2⟩ := ba (show (decide (c = "tuple") && (decide (its.size ≤ sizeLine) && relAll (vs.map (Dv.v K)) its.toList)) = true from h)
        obtain ⟨h3, h4⟩ := ba h2
        exact .inr ⟨_, its, n, q, congrArg Value.type (of_decide_eq_true h1), rfl, of_decide_eq_true h3, relAll_ok h4⟩
      | _ => cases h
    | _ => cases dt <;> cases h
/-! ### the end -/
theorem walk_ofX {l : PySem.W.OpenLaw} {n k : Nat} {q : Program} {loose : List Str} {XP : (Str → Option Value) → Heap → Prop} {YP : World → Heap → Prop} {d : DefRec} {CX : CXT} {x : Str}
    (hn : l.most = some n) (hn2 : n ≤ sizeLine) (hdf : d.params.defaults = []) (hr : Room k callerA)
    (F : ∀ (w : World) (mg : Str → Option Value) (fa : Addr) (h : Heap), YP w h → h.Ns mainGlobals mg → mg d.name = some (.ref fa) →
      ∃ (K : PySem.W.Frag) (fd : FuncData) (sp : Sp), K.In h ∧ (∀ (s : Shared) (u : Value), BindsTo s fd ⟨[u], []⟩ [(x, u)]) ∧
        (∀ (H : Hp) (a : Addr) (ns : List Int), ns.length ≤ n → Only H → SqL K H a (ns.map V.int) → sp [.ref a] H (fun v _ => v = .bl true) fun _ _ _ => False) ∧
        ∀ base : Heap, K.In base → base.Ns mainGlobals mg → HG.FnG l.prog w K mg base CX k fa fd [x] sp)
    (hCX : ∀ (H : Hp) (s : Shared) (e : Value) (s' : Shared), CX [] H s (fun _ _ _ => False) e s' → False) :
    PySem.W.WalkO q loose XP YP l.row.toRowW d [] (fun f vs => PySem.call f vs) := by
  refine Att.attach_call hn hdf fun w s₀ s₁ mg mb fa o pm cd doc a vs ns G Y ho hd hcd hmg hobj hints hlen hg => ?_
  obtain ⟨K, fd, sp, KX, hb, hsp, hF⟩ := F w mg fa _ Y G.T.g hmg
  exact HG.law_callG KX G.T.g G.T.b G.T.builtins G.T.nolimit hg hobj hints (Nat.le_trans hlen hn2) hr hF hb (fun H hO hS => hsp H a ns hlen hO hS) fun H e s' => hCX H s₁ e s'
end HH
/-! enumerate of a tuple -/
namespace HE
open PySem PySem.Spec PySem.Calls PyProof.Rows L2
open Sem (wp)
open AutoSeq1 (wpAny_loadPart')
theorem meets_enumT (l : Addr) (items : Array Value) (n : Nat) (dct : Option Addr) (sl : Array (Option Value)) :
    Meets (Builtin.«enumerate.__new__» ⟨[.type "enumerate", .ref l], []⟩) (fun _ R s => s.heap.get? l = some { cls := .type "tuple", dict := dct, data := .seq items n, slots := sl } ∧
      R (.ok (.ret (.ref (s.heap.push { cls := .type "tuple_iterator", data := .fields #[.ref l, .int 0 0] }).objs.size)))
        { s with heap := (s.heap.push { cls := .type "tuple_iterator", data := .fields #[.ref l, .int 0 0] }).push { cls := .type "enumerate", data := .fields #[.none, .bool false, .ref s.heap.objs.size, rawInt 0, .none, .none] } }) :=
  .of_wp fun prog w A R s h => by
    obtain ⟨hp, g, d, tk, os⟩ := s; obtain ⟨hl, h⟩ := h
    have hsub := sub_enumerate
    have hL : Heap.IsTuple (Shared.heap ⟨hp, g, d, tk, os⟩) l items := ⟨_, hl, rfl, n, rfl⟩
    wp_walk using wpAny_loadPart' hl
    refine wpAny_stack_any fun st => wpAny_pure ?_
    split
    · rename_i c _ _ _ _ _
      cases (c == Value.type "enumerate")
      · wp_walk using wpAny_loadPart' hl, wpAny_pyIter_tuple hL
        exact ⟨_, rfl, h⟩
      · wp_walk using wpAny_loadPart' hl, wpAny_pyIter_tuple hL
        exact ⟨_, rfl, h⟩
    · wp_walk using wpAny_loadPart' hl, wpAny_pyIter_tuple hL
      exact ⟨_, rfl, h⟩
section
variable {prog : Program} {w : World} {A : Around} {E : Value → Shared → Prop} {s : Shared}
theorem call_enumT {l : Addr} {items : Array Value} {Q : Value → Shared → Prop} (hL : s.heap.IsTuple l items)
    (h : ∀ h', IsEnum h' (s.heap.objs.size + 1) s.heap.objs.size 0 .none → h'.IsTupleIter s.heap.objs.size l 0 → h'.objs.size = s.heap.objs.size + 2 →
      (∀ b o, s.heap.get? b = some o → h'.get? b = some o) → Q (.ref (s.heap.objs.size + 1)) { s with heap := h' }) :
    wpAny (model prog w) A (call (.type "enumerate") [.ref l]) Q E s := by
  obtain ⟨⟨c, dct, dt, sl⟩, hl, hc, n, hd⟩ := hL
  replace hc : c = .type "tuple" := hc
  replace hd : dt = .seq items n := hd
  subst hc hd
  refine callType_new F.called_enumerate (by decide) (F.typeCall_enumerate_1 _) (F.newCall_enumerate_1 _) (fun obj => F.args_object_init_2 obj _) F.entry_enumerate_new
    (meets_enumT l items n dct sl) ⟨hl, ?_⟩
  have hz : (s.heap.push { cls := .type "tuple_iterator", data := .fields #[.ref l, .int 0 0] }).objs.size = s.heap.objs.size + 1 := Heap.size_push ..
  show _ ∧ _
  rw [hz]
  have he : IsEnum ((s.heap.push { cls := .type "tuple_iterator", data := .fields #[.ref l, .int 0 0] }).push
      { cls := .type "enumerate", data := .fields #[.none, .bool false, .ref s.heap.objs.size, rawInt 0, .none, .none] }) (s.heap.objs.size + 1) s.heap.objs.size 0 .none := by
    have := Heap.get?_push_size (s.heap.push { cls := .type "tuple_iterator", data := .fields #[.ref l, .int 0 0] })
      (o := { cls := .type "enumerate", data := .fields #[.none, .bool false, .ref s.heap.objs.size, rawInt 0, .none, .none] }) rfl
    rw [hz] at this; exact this
  refine ⟨⟨_, he, rfl⟩, h _ he ⟨_, Heap.get?_push_of_some _ (Heap.get?_push_size _ rfl), rfl, rfl⟩ (by rw [Heap.size_push, hz]) fun b o x => Heap.get?_push_of_some _ (Heap.get?_push_of_some _ x)⟩
end
/-- at the end -/
theorem Draws.tupEnd {prog : Program} {w : World} {A : Around} (hh : A.handled = none) (it t : Addr) (items : Array Value) (j : Nat) (hj : items.size ≤ j) :
    PySem.Draws prog w A it [it, t] j (fun _ _ => False) (fun i h => i = j ∧ h.IsTupleIter it t j ∧ h.IsTuple t items) where
  live := fun _ _ st => let ⟨o, ho, _⟩ := st.2.1; ⟨o, ho⟩
  frame := fun _ _ _ st hk => ⟨st.1, st.2.1.at fun o e => hk it (by simp) o e, st.2.2.at fun o e => hk t (by simp) o e⟩
  item := fun i s Q E hi st hQ => absurd st.1 (Nat.ne_of_lt hi)
  done := fun s Q E st hE => wpAny_nextOf_tuple_end hh st.2.1 st.2.2 (by simp [hj]) hE
def IteT (K : PySem.W.Frag) (a : Addr) : It :=
  ⟨fun i H => ∃ (xs : List V) (x : V), SqT K H a xs ∧ xs[i]? = some x, fun i H v H' => ∃ T x, v = .ref T ∧ H T = none ∧ H' = upd H T (.tup [.int (i : Nat), x]) ∧ ∀ xs, SqT K H a xs → xs[i]? = some x, fun i H => ∃ xs : List V, SqT K H a xs ∧ xs.length ≤ i⟩
theorem turn_enumT {P : Program} {w : World} {K : PySem.W.Frag} {elts : List Expr} {kk : Nat} {tpos : Pos} (a e it : Addr) :
    Turn P w K (.Tuple elts kk tpos) (IteT K a) [e, it] e (fun i h => (∃ old, IsEnum h e it ((i : Nat) : Int) old) ∧ h.IsTupleIter it a i ∧ e ≠ it) where
  mem := by simp
  obj := fun i h st b hb => by
    obtain ⟨⟨old, he⟩, ⟨o, ho, hc, hd⟩, _⟩ := st
    have e' : b = e ∨ b = it := by simpa using hb
    rcases e' with z | z
    · rw [z]; exact ⟨_, he, fun v q => nomatch q⟩
    · rw [z]; exact ⟨o, ho, fun v q => by rw [hd] at q; cases q⟩
  keep := fun i h h' st k => let ⟨⟨old, he⟩, hi, hne⟩ := st; ⟨⟨old, k e (by simp) _ he⟩, hi.at fun o q => k it (by simp) o q, hne⟩
  item := by
    intro X hP hw hK hc i pins s σ H E I hf st hg
    subst hP hw hK
    obtain ⟨⟨old, he⟩, hit, hne⟩ := st
    obtain ⟨xs, x, hq, hx⟩ := hg
    obtain ⟨its, rv, p, hz⟩ := I.tuple hq
    obtain ⟨u, hu, ru⟩ := rv.get hx
    have hel : e < s.heap.objs.size := Heap.lt_size he
    have hil : it < s.heap.objs.size := by obtain ⟨_, q, _⟩ := hit; exact Heap.lt_size q
    have ht : s.heap.IsTuple a its.toArray := p
    have hai : a ≠ it := by
      rintro rfl
      obtain ⟨o, ho, hc1, _⟩ := hit
      obtain ⟨o2, ho2, hc2, _⟩ := ht
      rw [ho] at ho2
      cases ho2
      rw [hc1] at hc2
      exact absurd (Value.type.inj hc2) (by decide)
    have hae : a ≠ e := by
      rintro rfl
      obtain ⟨o2, ho2, hc2, _⟩ := ht
      rw [show s.heap.get? a = some _ from he] at ho2
      cases ho2
      exact absurd (Value.type.inj hc2) (by decide)
    have hlt : i < its.toArray.size := by
      have := List.getElem?_eq_some_iff.mp hu
      simpa using this.1
    refine wpAny_pyNext_enum_itemD (Draws.tuple (A := X.A.in1) (I.ok.hd hc) it a hai its.toArray) he ⟨hit, ht⟩ hlt hne (by simp; exact ⟨hne, Ne.symm hae⟩) fun v h' tk hv ho st' hT hsz hk => ?_
    have ev : v = u := by
      have h1 : its.toArray[i]? = some u := by simpa using hu
      rw [hv] at h1
      exact Option.some.inj h1
    subst ev
    refine ⟨_, rfl, wpAny_letOwnedTupleGo_enum (s := { s with heap := h', toks := tk + 1 }) ho fun h'' he' sb => ?_⟩
    have hT2 : h''.get? s.heap.objs.size = some { cls := .type "tuple", data := .seq #[.int i tk, v] } := (sb.2 _ (Nat.ne_of_gt hel)).trans hT
    have new : ObjOk X.prog X.w (upd H s.heap.objs.size (.tup [.int (i : Nat), x])) h'' s.heap.objs.size (.tup [.int (i : Nat), x]) :=
      ⟨by show 2 ≤ sizeLine; decide, [.int i tk, v], .cons ⟨_, rfl⟩ (.cons ru .nil), ⟨_, hT2, rfl, _, rfl⟩⟩
    have I1 : Inv X pins σ (upd H s.heap.objs.size (.tup [.int (i : Nat), x])) { s with heap := h'', toks := tk + 1 } :=
      I.turnedNew (ch := [e, it]) (fun b ob hb q => (sb.2 b (fun z => hb (by simp [z]))).trans (hk b ob (fun z => hb (by simp [z])) (fun z => hb (by simp [z])) q)) hf (Nat.le_refl _) new
    refine ⟨.ref s.heap.objs.size, _, I1, rfl, ⟨_, x, rfl, I.hok.fresh (Nat.le_refl _), rfl, fun ys hy => by rw [I.tuple_inj hy hq]; exact hx⟩, ⟨⟨v, ?_⟩, st'.1.at fun o q => (sb.2 it (Ne.symm hne)).trans q, hne⟩, fun b hb => ?_⟩
    · have e1 : ((i + 1 : Nat) : Int) = (i : Int) + 1 := by omega
      rw [e1]; exact he'
    · have hb' : b < s.heap.objs.size := by
        have e' : b = e ∨ b = it := by simpa using hb
        rcases e' with z | z
        · rw [z]; exact hel
        · rw [z]; exact hil
      rw [upd_ne (Nat.ne_of_lt hb')]
      exact (hf b hb).1
  done := by
    intro X hP hw hK hc i pins s σ H E I hf st hg
    subst hP hw hK
    obtain ⟨⟨old, he⟩, hit, hne⟩ := st
    obtain ⟨xs, hq, hx⟩ := hg
    obtain ⟨its, rv, p, hz⟩ := I.tuple hq
    obtain ⟨f0, f1, f2, f3, f4, f5⟩ := hf it (by simp)
    have hl := rv.length
    have ht : s.heap.IsTuple a its.toArray := p
    have hai : a ≠ it := by
      rintro rfl
      obtain ⟨o, ho, hc1, _⟩ := hit
      obtain ⟨o2, ho2, hc2, _⟩ := ht
      rw [ho] at ho2
      cases ho2
      rw [hc1] at hc2
      exact absurd (Value.type.inj hc2) (by decide)
    -- the walk may be asked behind the end
    refine wpAny_pyNext_enum_endD (Draws.tupEnd (A := X.A.in1) (I.ok.hd hc) it a its.toArray i (by simp; omega)) he ⟨rfl, hit, ht⟩ fun h' eb => ⟨rfl, I.turned (t' := s.toks) (fun b o hb q => eb b o hb q) f0 f1 f3 f4 f5⟩
  self := fun A i s Q E st h => let ⟨⟨_, he⟩, _⟩ := st; wpAny_pyIter_enum he h
def iEnumT (K : PySem.W.Frag) (ta : TA) : TI := fun σ H R => ta σ H fun vs H1 => ∃ a xs, vs = [.ref a] ∧ SqT K H1 a xs ∧ R (IteT K a) H1
theorem pi_enumT {X : Cx} {e : Expr} {ta : TA} {p pos tpos : Pos} {elts : List Expr} {kk : Nat} (hg : Gl X "enumerate") (hm : X.mg "enumerate" = none) (ha : PA X [e] ta) (hs : starEach [e] X.env = [(false, eval e X.env)] := by rfl) :
    PI X (.Tuple elts kk tpos) (.Call (.Name "enumerate" p) [e] [] pos) (iEnumT X.K ta) := by
  refine ⟨fun pins s σ H R I h => ?_⟩
  refine Call_ (ld_blt I hg hm boot_enumerate (PyProof.Rows.callWith_type1 (thn (ha.run pos pins s σ H _ I h) fun us s1 ⟨vs, H1, I1, r1, q1⟩ => ?_) hs rfl))
  obtain ⟨a, xs, ex, hq, q⟩ := q1
  subst ex
  cases r1 with
  | cons r rr =>
    cases rr
    cases r
    obtain ⟨its, rv, p', hz⟩ := I1.tuple hq
    refine call_enumT (show s1.heap.IsTuple a its.toArray from p') fun h' he hit hsz hk => wpAny_pyIter_enum he ?_
    have I2 : Inv X pins σ H1 { s1 with heap := h' } := I1.kept (t' := s1.toks) hk
    refine ⟨s1.heap.objs.size + 1, [s1.heap.objs.size + 1, s1.heap.objs.size], _, _, H1, rfl, I2, turn_enumT a (s1.heap.objs.size + 1) s1.heap.objs.size, ⟨⟨.none, he⟩, hit, Nat.succ_ne_self _⟩, fun b hb => ?_, q⟩
    have e' : b = s1.heap.objs.size + 1 ∨ b = s1.heap.objs.size := by simpa using hb
    have hle : s1.heap.objs.size ≤ b := by
      rcases e' with z | z
      · rw [z]; exact Nat.le_add_right _ _
      · rw [z]; exact Nat.le_refl _
    exact I1.fpOk hle (I1.hok.fresh hle)
theorem walk_enumT {K : PySem.W.Frag} {a : Addr} {xs : List V} : Walk (IteT K a) xs.length (fun H => SqT K H a xs) (YPair (fun i => some (.int (i : Nat))) (fun i => xs[i]?)) := by
  refine ⟨fun i _ hi q => ⟨xs, xs[i], q, by simp [hi]⟩, fun _ q => ⟨xs, q, Nat.le_refl _⟩, fun i H v H' _ q y => ?_⟩
  obtain ⟨T, x, h1, h2, h3, h4⟩ := y
  exact ⟨T, .int (i : Nat), x, h1, h2, h3, rfl, h4 xs q⟩
end HE
/-! zip of a tuple and a list, over the library's zip of any two iterators (KE.GoesZip, KE.GoesMore) -/
namespace HE
open PySem PySem.Spec PySem.Calls PyProof.Rows L2 RZ
open Sem (wp)
theorem Draws.lstEnd {prog : Program} {w : World} {A : Around} (hh : A.handled = none) (it t : Addr) (items : Array Value) (j : Nat) (hj : items.size ≤ j) :
    PySem.Draws prog w A it [it, t] j (fun _ _ => False) (fun i h => i = j ∧ h.IsListIter it t j ∧ h.IsList t items) where
  live := fun _ _ st => let ⟨o, ho, _⟩ := st.2.1; ⟨o, ho⟩
  frame := fun _ _ _ st hk => ⟨st.1, st.2.1.at fun o e => hk it (by simp) o e, st.2.2.at fun o e => hk t (by simp) o e⟩
  item := fun i s Q E hi st hQ => absurd st.1 (Nat.ne_of_lt hi)
  done := fun s Q E st hE => wpAny_nextOf_list_end hh st.2.1 st.2.2 (by simp [hj]) hE
/-- a tuple at a and a list at b, as they stand at each turn -/
def ItzTL (K : PySem.W.Frag) (a b : Addr) : It :=
  ⟨fun i H => ∃ (xs ys : List V) (x y : V), SqT K H a xs ∧ SqL K H b ys ∧ xs[i]? = some x ∧ ys[i]? = some y,
    fun i H v H' => ∃ T x y, v = .ref T ∧ H T = none ∧ H' = upd H T (.tup [x, y]) ∧ (∀ xs, SqT K H a xs → xs[i]? = some x) ∧ ∀ ys, SqL K H b ys → ys[i]? = some y,
    fun i H => ∃ xs ys : List V, SqT K H a xs ∧ SqL K H b ys ∧ (xs.length ≤ i ∨ ys.length ≤ i)⟩
/-- what the walk's own objects are -/
def ZSt (z TI TO i1 i2 a b : Addr) (i : Nat) (h : Heap) : Prop := IsZip h z TI TO .none ∧ IsTupOf2 h TI (.ref i1) (.ref i2) ∧ (∃ x y, IsTupOf2 h TO x y) ∧ h.IsTupleIter i1 a i ∧ h.IsListIter i2 b i
theorem mem5 {c z TI TO i1 i2 : Addr} (h : c ∈ [z, TI, TO, i1, i2]) : c = z ∨ c = TI ∨ c = TO ∨ c = i1 ∨ c = i2 := by simpa using h
theorem ZSt.live {z TI TO i1 i2 a b : Addr} {i : Nat} {h : Heap} (st : ZSt z TI TO i1 i2 a b i h) {c : Addr} (hc : c ∈ [z, TI, TO, i1, i2]) : ∃ o, h.get? c = some o ∧ ∀ v, o.data ≠ .cell v := by
  obtain ⟨h1, h2, ⟨x, y, h3⟩, ⟨p, e4, _, d4⟩, ⟨q, e5, _, d5⟩⟩ := st
  rcases mem5 hc with e | e | e | e | e <;> subst e
  · exact ⟨_, h1, fun v q => nomatch q⟩
  · exact ⟨_, h2, fun v q => nomatch q⟩
  · exact ⟨_, h3, fun v q => nomatch q⟩
  · exact ⟨p, e4, fun v q => by rw [d4] at q; cases q⟩
  · exact ⟨q, e5, fun v z => by rw [d5] at z; cases z⟩
theorem sep_of {n a b : Addr} (ha : a < n) (hb : b < n) : ZipSep2 (n + 4) (n + 2) (n + 3) n (n + 1) [n, a] [n + 1, b] := by
  have e : ∀ k j : Nat, k ≠ j → n + k ≠ n + j := fun k j h z => h (Nat.add_left_cancel z)
  have ne : ∀ {c : Addr} (k : Nat), c < n → n + k ≠ c := fun k h z => Nat.lt_irrefl n (Nat.lt_of_le_of_lt (Nat.le_add_right n k) (z ▸ h))
  constructor
  · exact e 2 4 (by decide)
  · exact e 3 4 (by decide)
  · exact e 2 3 (by decide)
  · exact e 2 0 (by decide)
  · simp
  · simp only [List.mem_cons, List.not_mem_nil, or_false, not_or]; exact ⟨e 4 0 (by decide), ne 4 ha⟩
  · simp only [List.mem_cons, List.not_mem_nil, or_false, not_or]; exact ⟨e 3 0 (by decide), ne 3 ha⟩
  · exact e 2 1 (by decide)
  · simp
  · simp only [List.mem_cons, List.not_mem_nil, or_false, not_or]; exact ⟨e 4 1 (by decide), ne 4 hb⟩
  · simp only [List.mem_cons, List.not_mem_nil, or_false, not_or]; exact ⟨e 3 1 (by decide), ne 3 hb⟩
  · simp only [List.mem_cons, List.not_mem_nil, or_false, not_or]; exact ⟨e 0 1 (by decide), ne 0 hb⟩
  · simp only [List.mem_cons, List.not_mem_nil, or_false, not_or]; exact ⟨e 1 0 (by decide), ne 1 ha⟩
theorem turn_zipTL {P : Program} {w : World} {K : PySem.W.Frag} {elts : List Expr} {kk : Nat} {tpos : Pos} {a b z TI TO i1 i2 : Addr} (D : ZipSep2 z TI TO i1 i2 [i1, a] [i2, b]) (hai : a ≠ i1) (hbi : b ≠ i2) (hz1 : i1 ≠ z) (hz2 : i2 ≠ z) :
    Turn P w K (.Tuple elts kk tpos) (ItzTL K a b) [z, TI, TO, i1, i2] z (ZSt z TI TO i1 i2 a b) where
  mem := by simp
  obj := fun i h st c hc => st.live hc
  keep := fun i h h' st k => by
    obtain ⟨h1, h2, ⟨x, y, h3⟩, h4, h5⟩ := st
    exact ⟨k z (by simp) _ h1, k TI (by simp) _ h2, ⟨x, y, k TO (by simp) _ h3⟩, h4.at fun o q => k i1 (by simp) o q, h5.at fun o q => k i2 (by simp) o q⟩
  item := by
    intro X hP hw hK hc i pins s σ H E I hf st hg
    subst hP hw hK
    obtain ⟨g1, g2, ⟨x0, y0, g3⟩, g4, g5⟩ := id st
    obtain ⟨xs, ys, x, y, hqx, hqy, hx, hy⟩ := hg
    obtain ⟨its, rv, p, _⟩ := I.tuple hqx
    obtain ⟨its2, rv2, p2, _⟩ := I.list hqy
    obtain ⟨u, hu, ru⟩ := rv.get hx
    obtain ⟨u2, hu2, ru2⟩ := rv2.get hy
    have ht : s.heap.IsTuple a its.toArray := p
    have lt1 : i < its.toArray.size := by have := (List.getElem?_eq_some_iff.mp hu).1; simpa using this
    have lt2 : i < its2.toArray.size := by have := (List.getElem?_eq_some_iff.mp hu2).1; simpa using this
    have zl : z < s.heap.objs.size := Heap.lt_size g1
    refine wpAny_pyNext_zipD2_item D (PySem.Draws.tuple (A := X.A.in1) (I.ok.hd hc) i1 a hai its.toArray) (PySem.Draws.list (A := X.A.in1) (I.ok.hd hc) i2 b hbi its2.toArray) g1 g2 g3 ⟨g4, ht⟩ ⟨g5, p2.isList⟩ lt1 lt2
      fun v1 v2 h' tk e1 e2 z' t' s1 s2 hT hsz hk => ?_
    have ev1 : v1 = u := by
      have h1 : its.toArray[i]? = some u := by simpa using hu
      rw [e1] at h1
      exact Option.some.inj h1
    have ev2 : v2 = u2 := by
      have h1 : its2.toArray[i]? = some u2 := by simpa using hu2
      rw [e2] at h1
      exact Option.some.inj h1
    subst ev1
    subst ev2
    refine ⟨_, rfl, wpAny_letOwnedTupleGo_zip (s := { s with heap := h', toks := tk }) z' fun h2 z2 sb => ?_⟩
    have nz : s.heap.objs.size ≠ z := Nat.ne_of_gt zl
    have hT2 : h2.get? s.heap.objs.size = some { cls := .type "tuple", data := .seq #[v1, v2] } := (sb.2 _ nz).trans hT
    have old : ∀ c o, c ∉ [z, TI, TO, i1, i2] → s.heap.get? c = some o → h2.get? c = some o := fun c o hm q => by
      simp only [List.mem_cons, List.not_mem_nil, or_false, not_or] at hm
      exact (sb.2 c hm.1).trans (hk c o hm.1 hm.2.2.1 hm.2.2.2.1 hm.2.2.2.2 q)
    have new : ObjOk X.prog X.w (upd H s.heap.objs.size (.tup [x, y])) h2 s.heap.objs.size (.tup [x, y]) :=
      ⟨by show 2 ≤ sizeLine; decide, [v1, v2], .cons ru (.cons ru2 .nil), ⟨_, hT2, rfl, _, rfl⟩⟩
    have I1 := I.turnedNew (t' := tk) (ch := [z, TI, TO, i1, i2]) (h' := h2) old hf (Nat.le_refl _) new
    refine ⟨.ref s.heap.objs.size, _, I1, rfl, ⟨_, x, y, rfl, I.hok.fresh (Nat.le_refl _), rfl, fun l hl => by rw [I.tuple_inj hl hqx]; exact hx, fun l hl => by rw [I.list_inj hl hqy]; exact hy⟩,
      ⟨z2, (sb.2 _ D.TIz).trans (hk _ _ D.TIz D.TITO D.TIi1 D.TIi2 g2), ⟨v1, v2, (sb.2 _ D.TOz).trans t'⟩, s1.1.at fun o q => (sb.2 _ hz1).trans q, s2.1.at fun o q => (sb.2 _ hz2).trans q⟩, fun c hm => ?_⟩
    obtain ⟨o, ho, _⟩ := st.live hm
    rw [upd_ne (Nat.ne_of_lt (Heap.lt_size ho))]
    exact (hf c hm).1
  done := by
    intro X hP hw hK hc i pins s σ H E I hf st hg
    subst hP hw hK
    obtain ⟨g1, g2, ⟨x0, y0, g3⟩, g4, g5⟩ := st
    obtain ⟨xs, ys, hqx, hqy, hend⟩ := hg
    obtain ⟨its, rv, p, _⟩ := I.tuple hqx
    obtain ⟨its2, rv2, p2, _⟩ := I.list hqy
    have ht : s.heap.IsTuple a its.toArray := p
    have l1 := rv.length
    have l2 := rv2.length
    have fin : ∀ (h' : Heap) (tk : Nat), (∀ c o, c ≠ z → c ≠ TO → c ≠ i1 → c ≠ i2 → s.heap.get? c = some o → h'.get? c = some o) → (none : Option Value) = none ∧ Inv X pins σ H { s with heap := h', toks := tk } := fun h' tk hk =>
      ⟨rfl, I.turnedL (t' := tk) (ch := [z, TI, TO, i1, i2]) (fun c o hb q => by
        simp only [List.mem_cons, List.not_mem_nil, or_false, not_or] at hb
        exact hk c o hb.1 hb.2.2.1 hb.2.2.2.1 hb.2.2.2.2 q) hf⟩
    have hh := I.ok.hd hc
    by_cases c1 : its.toArray.size ≤ i
    · by_cases c2 : its2.toArray.size ≤ i
      · exact wpAny_pyNext_zipD2_end D (Draws.tupEnd (A := X.A.in1) hh i1 a its.toArray i c1) (Draws.lstEnd (A := X.A.in1) hh i2 b its2.toArray i c2) g1 g2 g3 ⟨rfl, g4, ht⟩ ⟨rfl, g5, p2.isList⟩ (Nat.le_refl _) (Nat.le_refl _) (.inl rfl) fin
      · exact wpAny_pyNext_zipD2_end D (Draws.tupEnd (A := X.A.in1) hh i1 a its.toArray i c1) (PySem.Draws.list (A := X.A.in1) hh i2 b hbi its2.toArray) g1 g2 g3 ⟨rfl, g4, ht⟩ ⟨g5, p2.isList⟩ (Nat.le_refl _) (by omega) (.inl rfl) fin
    · have c2 : its2.toArray.size ≤ i := by
        simp only [List.size_toArray] at c1 ⊢
        omega
      exact wpAny_pyNext_zipD2_end D (PySem.Draws.tuple (A := X.A.in1) hh i1 a hai its.toArray) (Draws.lstEnd (A := X.A.in1) hh i2 b its2.toArray i c2) g1 g2 g3 ⟨g4, ht⟩ ⟨rfl, g5, p2.isList⟩ (by omega) (Nat.le_refl _) (.inr rfl) fin
  self := fun A i s Q E st h => wpAny_pyIter_zip st.1 h
def iZipTL (K : PySem.W.Frag) (ta : TA) : TI := fun σ H R => ta σ H fun vs H1 => ∃ a b xs ys, vs = [.ref a, .ref b] ∧ SqT K H1 a xs ∧ SqL K H1 b ys ∧ R (ItzTL K a b) H1
theorem pi_zipTL {X : Cx} {e e2 : Expr} {ta : TA} {p pos tpos : Pos} {elts : List Expr} {kk : Nat} (hg : Gl X "zip") (hm : X.mg "zip" = none) (ha : PA X [e, e2] ta)
    (hs : starEach [e, e2] X.env = (false, eval e X.env) :: starEach [e2] X.env := by rfl) (hpl : (backTo pos (starEach [e2] X.env)).any (·.1) = false := by rfl) :
    PI X (.Tuple elts kk tpos) (.Call (.Name "zip" p) [e, e2] [] pos) (iZipTL X.K ta) := by
  refine ⟨fun pins s σ H R I h => ?_⟩
  refine Call_ (ld_blt I hg hm PyProof.Rows.boot_zip (PyProof.Rows.callWith_type1 (thn (ha.run pos pins s σ H _ I h) fun us s1 ⟨vs, H1, I1, r1, a, b, xs, ys, ex, hqx, hqy, q⟩ => ?_) hs hpl))
  subst ex
  obtain ⟨u1, u2, rfl, ra, rb⟩ := vals2 r1
  cases ra
  cases rb
  obtain ⟨its, rv, p1, _⟩ := I1.tuple hqx
  obtain ⟨its2, rv2, p2, _⟩ := I1.list hqy
  have ht : s1.heap.IsTuple a its.toArray := p1
  have al : a < s1.heap.objs.size := by obtain ⟨_, e, _⟩ := ht; exact Heap.lt_size e
  refine zip_begins2 (begins_tuple a its.toArray) (begins_list b its2.toArray) ht p2.isList fun h' hz hTI hTO k1 k2 hsz hk => wpAny_pyIter_zip hz ?_
  have I2 : Inv X pins σ H1 { s1 with heap := h' } := I1.kept (t' := s1.toks) hk
  have n1 : ∀ k : Nat, s1.heap.objs.size + (k + 1) ≠ s1.heap.objs.size := fun k z => absurd (Nat.add_left_cancel (show s1.heap.objs.size + (k + 1) = s1.heap.objs.size + 0 from z)) (Nat.succ_ne_zero k)
  have n2 : s1.heap.objs.size + 1 ≠ s1.heap.objs.size + 4 := fun z => absurd (Nat.add_left_cancel z) (by decide)
  refine ⟨s1.heap.objs.size + 4, _, _, _, H1, rfl, I2, turn_zipTL (sep_of al p2.lt) (Nat.ne_of_lt al) (Nat.ne_of_lt (Nat.lt_succ_of_lt p2.lt)) (Ne.symm (n1 3)) n2, ⟨hz, hTI, ⟨_, _, hTO⟩, ⟨_, k1, rfl, rfl⟩, ⟨_, k2, rfl, rfl⟩⟩, fun c hm => ?_, q⟩
  have hle : s1.heap.objs.size ≤ c := by
    rcases mem5 hm with e | e | e | e | e <;> rw [e]
    · exact Nat.le_add_right _ _
    · exact Nat.le_add_right _ _
    · exact Nat.le_add_right _ _
    · exact Nat.le_refl _
    · exact Nat.le_add_right _ _
  exact I1.fpOk hle (I1.hok.fresh hle)
theorem walk_zipTL {K : PySem.W.Frag} {a b : Addr} {xs ys : List V} {n : Nat} (hn : n = min xs.length ys.length) : Walk (ItzTL K a b) n (fun H => SqT K H a xs ∧ SqL K H b ys) (YPair (fun i => xs[i]?) (fun i => ys[i]?)) := by
  subst hn
  refine ⟨fun i H hi q => ?_, fun _ q => ⟨xs, ys, q.1, q.2, by omega⟩, fun i H v H' _ q y => ?_⟩
  · have h1 : i < xs.length := by omega
    have h2 : i < ys.length := by omega
    exact ⟨xs, ys, xs[i], ys[i], q.1, q.2, by simp [h1], by simp [h2]⟩
  · obtain ⟨T, x, y, e1, e2, e3, e4, e5⟩ := y
    exact ⟨T, x, y, e1, e2, e3, e4 xs q.1, e5 ys q.2⟩
theorem walk_zipT {K : PySem.W.Frag} {a b : Addr} {xs ys : List V} {n : Nat} (hn : n = min xs.length ys.length) : Walk (ItzT K a b) n (fun H => SqT K H a xs ∧ SqT K H b ys) (YPair (fun i => xs[i]?) (fun i => ys[i]?)) := by
  subst hn
  refine ⟨fun i H hi q => ?_, fun _ q => ⟨xs, ys, q.1, q.2, by omega⟩, fun i H v H' _ q y => ?_⟩
  · have h1 : i < xs.length := by omega
    have h2 : i < ys.length := by omega
    exact ⟨xs, ys, xs[i], ys[i], q.1, q.2, by simp [h1], by simp [h2]⟩
  · obtain ⟨T, x, y, e1, e2, e3, e4, e5⟩ := y
    exact ⟨T, x, y, e1, e2, e3, e4 xs q.1, e5 ys q.2⟩
end HE
/-! dicts of the top whose values are tuples: k in d, d[k]; blocks that are never run; data -/
namespace HD
open PySem PySem.Spec PySem.Calls PyProof.Rows L2 HB HH
section
variable {X : Cx} {a : Addr} {kvs : List (Str × List V)}
theorem _root_.HH.DT.ns {K : PySem.W.Frag} {w : World} (D : DT K w a kvs) (z : Str) : ∃ r, PySem.W.nsIn K a z = some r ∧ r.isSome = decide (z ∈ kvs.map (·.1)) := by
  by_cases h : z ∈ kvs.map (·.1)
  · obtain ⟨q, hq, rfl⟩ := List.mem_map.mp h
    obtain ⟨t, e, _⟩ := D.there q hq
    exact ⟨_, e, by rw [decide_eq_true h]; rfl⟩
  · exact ⟨_, D.miss z h, by rw [decide_eq_false h]; rfl⟩
def rInDT (a : Addr) (kvs : List (Str × List V)) (neg : Bool) : R2 := fun x y H Q => ∃ z : Str, x = .str z ∧ y = .ref a ∧ Q (.bl (if neg then !decide (z ∈ kvs.map (·.1)) else decide (z ∈ kvs.map (·.1)))) H
theorem op_in_dt (D : DT X.K X.w a kvs) : OpR X (compareOp .In) (rInDT a kvs false) := by
  obtain ⟨es, n, kd⟩ := D.kd
  intro pins s σ H x y v u Q I rx ry h
  obtain ⟨z, e1, e2, q⟩ := h
  obtain ⟨r, er, es'⟩ := D.ns z
  exact op_in_kd kd pins s σ H x y v u Q I rx ry ⟨z, r, e1, e2, er, by rw [es']; exact q⟩
theorem op_notIn_dt (D : DT X.K X.w a kvs) : OpR X (compareOp .NotIn) (rInDT a kvs true) := by
  obtain ⟨es, n, kd⟩ := D.kd
  intro pins s σ H x y v u Q I rx ry h
  obtain ⟨z, e1, e2, q⟩ := h
  obtain ⟨r, er, es'⟩ := D.ns z
  exact op_notIn_kd kd pins s σ H x y v u Q I rx ry ⟨z, r, e1, e2, er, by rw [es']; exact q⟩
def rIxDT (K : PySem.W.Frag) (a : Addr) (kvs : List (Str × List V)) : R2 := fun x y H Q => ∃ q ∈ kvs, x = .ref a ∧ y = .str q.1 ∧ ∀ t : Addr, (∀ H' : Hp, SqT K H' t q.2) → Q (.ref t) H
theorem ix_dt (D : DT X.K X.w a kvs) : IxR X (rIxDT X.K a kvs) := by
  obtain ⟨es, n, kd⟩ := D.kd
  intro value slice pins s σ H x y v u Q I rx ry h hs
  obtain ⟨q, hq, e1, e2, k⟩ := h
  obtain ⟨t, et, ht⟩ := D.there q hq
  exact ix_kdict value slice pins s σ H x y v u Q I rx ry ⟨a, q.1, .ref t, e1, e2, ⟨es, n, _, kd.at_, kd.lit, et, rfl⟩, k t ht⟩ hs
/-- a block that is never run -/
def tDead : TS := fun _ _ _ => False
theorem pss_dead {b : List Stmt} : PSs X b tDead := ⟨fun _ _ _ _ _ _ h => h.elim⟩
end
/-! ### data: kinds, sizes -/
mutual
/-- texts and displays of a size that the rules take -/
def okD : PyData → Bool
  | .str z => decide (z.length ≤ 100000)
  | .list xs => decide (xs.length ≤ 10000) && okAll xs
  | .tuple xs => decide (xs.length ≤ 10000) && okAll xs
  | _ => true
def okAll : List PyData → Bool
  | [] => true
  | x :: xs => okD x && okAll xs
end
theorem okAll_mem : ∀ {xs : List PyData}, okAll xs = true → ∀ x ∈ xs, okD x = true
  | y :: ys, h, x, hx => by
    simp only [okAll, Bool.and_eq_true] at h
    rcases List.mem_cons.mp hx with rfl | hx
    · exact h.1
    · exact okAll_mem h.2 x hx
/-- the kind's name -/
def kindD : PyData → String
  | .none => "NoneType"
  | .bool _ => "bool"
  | .int _ => "int"
  | .str _ => "str"
  | .list _ => "list"
  | .tuple _ => "tuple"
  | _ => ""
theorem dp_ty {K : PySem.W.Frag} {H : Hp} {v : V} {d : PyData} (h : Dp K H v d) : TyX K H v (.type (kindD d)) ∧ kindD d ∈ ["NoneType", "bool", "int", "str", "list", "tuple"] := by
  cases h with
  | non => exact ⟨.base .non, by simp [kindD]⟩
  | bl b => exact ⟨.base (.bl b), by simp [kindD]⟩
  | int i => exact ⟨.base (.int i), by simp [kindD]⟩
  | str x => exact ⟨.base (.str x), by simp [kindD]⟩
  | lst h _ =>
    refine ⟨?_, by simp [kindD]⟩
    rcases h with (h | ⟨o, h⟩) | ⟨o, its, n, h, c, _⟩
    · exact .base (.lst h)
    · exact .base (.frz h)
    · exact .kList h c
  | tup h _ =>
    refine ⟨?_, by simp [kindD]⟩
    rcases h with (h | ⟨o, h⟩) | ⟨o, its, n, h, c, _⟩
    · exact .base (.tup h)
    · exact .fTuple h
    · exact .kTuple h c
/-- isinstance(x, k) of data -/
theorem kit_dat {K : PySem.W.Frag} {d : PyData} {k : String} (hk : k ∈ ["str", "tuple", "bool"]) (h : kindD d ∈ ["NoneType", "bool", "int", "str", "list", "tuple"]) : PySem.W.kitOne K (.type (kindD d)) (.type k) = some (decide (kindD d = k)) := by
  have : kitB (kindD d) k = some (decide (kindD d = k)) := by
    generalize kindD d = j at h
    simp only [List.mem_cons, List.not_mem_nil, or_false] at hk h
    rcases hk with rfl | rfl | rfl <;> rcases h with rfl | rfl | rfl | rfl | rfl | rfl <;> decide +kernel
  exact kit_ty this
theorem kit_datInt {K : PySem.W.Frag} {d : PyData} (h : kindD d ∈ ["NoneType", "bool", "int", "str", "list", "tuple"]) : PySem.W.kitOne K (.type (kindD d)) (.type "int") = some (decide (kindD d = "int" ∨ kindD d = "bool")) := by
  have : kitB (kindD d) "int" = some (decide (kindD d = "int" ∨ kindD d = "bool")) := by
    generalize kindD d = j at h
    simp only [List.mem_cons, List.not_mem_nil, or_false] at h
    rcases h with rfl | rfl | rfl | rfl | rfl | rfl <;> decide +kernel
  exact kit_ty this
end HD
/-! dicts of texts: as lists of pairs; sorted pairs of texts -/
namespace HS
open PySem PySem.Spec PyProof.Rows L2 HX HB
/-- a dict of texts -/
def dz (ts : List (Str × Str)) : List (Key × V) := ts.map fun p => (Sum.inr p.1, .str p.2)
def lookS (ts : List (Str × Str)) (k : Str) : Option Str := (ts.find? fun p => decide (p.1 = k)).map (·.2)
theorem lookS_val (ts : List (Str × Str)) (k : Str) : valV (dz ts) (Sum.inr k : Key) = (lookS ts k).map V.str := by
  unfold valV dz lookS
  rw [List.find?_map]
  have e : ((fun kv : Key × V => decide (kv.1 = Sum.inr k)) ∘ fun p : Str × Str => (Sum.inr p.1, V.str p.2)) = fun p : Str × Str => decide (p.1 = k) := by
    funext p
    show decide ((Sum.inr p.1 : Key) = Sum.inr k) = _
    rw [key_rr]
  rw [e]
  cases ts.find? fun p => decide (p.1 = k) <;> rfl
theorem nodup_fst : ∀ {ks : List (Str × Str)}, (ks.map (·.1)).Nodup → ∀ {p q : Str × Str}, p ∈ ks → q ∈ ks → p.1 = q.1 → p = q
  | [], _, p, _, hp, _, _ => by cases hp
  | a :: l, h, p, q, hp, hq, he => by
    rw [List.map_cons, List.nodup_cons] at h
    rcases List.mem_cons.mp hp with e1 | hp' <;> rcases List.mem_cons.mp hq with e2 | hq'
    · rw [e1, e2]
    · subst e1; exact absurd (List.mem_map.mpr ⟨q, hq', he.symm⟩) h.1
    · subst e2; exact absurd (List.mem_map.mpr ⟨p, hp', he⟩) h.1
    · exact nodup_fst h.2 hp' hq' he
theorem lookS_mem {ts : List (Str × Str)} (h : (ts.map (·.1)).Nodup) {k w : Str} : lookS ts k = some w ↔ (k, w) ∈ ts := by
  unfold lookS
  constructor
  · intro e
    cases e1 : ts.find? fun p => decide (p.1 = k) with
    | none => rw [e1] at e; cases e
    | some p =>
      rw [e1] at e
      cases e
      have h1 := List.mem_of_find?_eq_some e1
      have h2 : p.1 = k := by have := List.find?_some e1; simpa using this
      rw [← h2]
      exact h1
  · intro hm
    cases e1 : ts.find? fun p => decide (p.1 = k) with
    | none => exact absurd (List.find?_eq_none.mp e1 _ hm) (by simp)
    | some p =>
      have h1 := List.mem_of_find?_eq_some e1
      have h2 : p.1 = k := by have := List.find?_some e1; simpa using this
      rw [nodup_fst h h1 hm h2]
      rfl
theorem merge_new : ∀ (more acc : List (Key × V)), ((acc ++ more).map (·.1)).Nodup → mergeK acc more = acc ++ more
  | [], acc, _ => by rw [List.append_nil]; rfl
  | (k, v) :: more, acc, h => by
    have hk : valV acc k = none := by
      unfold valV
      cases e : acc.find? fun kv => decide (kv.1 = k) with
      | none => rfl
      | some p =>
        have hp := List.mem_of_find?_eq_some e
        have he := List.find?_some e
        rw [List.map_append, List.map_cons, List.nodup_append] at h
        exact absurd (of_decide_eq_true he) (h.2.2 _ (List.mem_map.mpr ⟨p, hp, rfl⟩) _ (List.mem_cons_self ..))
    show mergeK (putK acc k v) more = _
    rw [putK_new v hk, merge_new more (acc ++ [(k, v)]) (by rwa [List.append_assoc]), List.append_assoc]
    rfl
theorem dz_new {ts : List (Str × Str)} (h : (ts.map (·.1)).Nodup) : mergeK [] (dz ts) = dz ts := by
  refine merge_new (dz ts) [] ?_
  rw [List.nil_append]
  unfold dz
  rw [List.map_map]
  have e : (((fun kv : Key × V => kv.1) ∘ fun p : Str × Str => ((Sum.inr p.1 : Key), V.str p.2)) : Str × Str → Key) = (fun s : Str => (Sum.inr s : Key)) ∘ fun p => p.1 := rfl
  rw [e, ← List.map_map]
  exact List.Pairwise.map _ (fun a b hab z => hab (Sum.inr.inj z)) h
theorem paired_at {α β : Type} {F : α → β → Prop} : ∀ {l : List α} {m : List β}, Paired F l m → ∀ {i : Nat} {a : α}, l[i]? = some a → ∃ b, m[i]? = some b ∧ F a b
  | _, _, .nil, i, a, h => by simp at h
  | _, _, .cons x t, 0, a, h => by cases h; exact ⟨_, rfl, x⟩
  | _, _, .cons x t, i + 1, a, h => paired_at t (by simpa using h)
theorem paired_imp {α β : Type} {F G : α → β → Prop} (h : ∀ a b, F a b → G a b) : ∀ {l : List α} {m : List β}, Paired F l m → Paired G l m
  | _, _, .nil => .nil
  | _, _, .cons x t => .cons (h _ _ x) (paired_imp h t)
/-! ### dicts of texts, written -/
def putZ (ts : List (Str × Str)) (k w : Str) : List (Str × Str) :=
  if (ts.any fun p => decide (p.1 = k)) = true then ts.map (fun p => if p.1 = k then (p.1, w) else p) else ts ++ [(k, w)]
theorem putZ_dz (ts : List (Str × Str)) (k w : Str) : putK (dz ts) (Sum.inr k : Key) (.str w) = dz (putZ ts k w) := by
  unfold putK putZ dz
  have e : ((ts.map fun p => ((Sum.inr p.1 : Key), V.str p.2)).any fun kv => decide (kv.1 = (Sum.inr k : Key))) = ts.any fun p => decide (p.1 = k) := by
    rw [List.any_map]
    congr 1
    funext p
    show decide ((Sum.inr p.1 : Key) = Sum.inr k) = _
    rw [key_rr]
  rw [e]
  split
  · rw [List.map_map, List.map_map]
    apply List.map_congr_left
    intro p _
    show (if (Sum.inr p.1 : Key) = Sum.inr k then _ else _) = ((Sum.inr (if p.1 = k then (p.1, w) else p).1 : Key), V.str (if p.1 = k then (p.1, w) else p).2)
    by_cases h : p.1 = k
    · rw [if_pos (congrArg Sum.inr h), if_pos h]
    · rw [if_neg (fun z => h (Sum.inr.inj z)), if_neg h]
  · rw [List.map_append]; rfl
theorem putZ_keys (ts : List (Str × Str)) (k w : Str) : (putZ ts k w).map (·.1) = if (ts.any fun p => decide (p.1 = k)) = true then ts.map (·.1) else ts.map (·.1) ++ [k] := by
  unfold putZ
  split
  · rw [List.map_map]
    apply List.map_congr_left
    intro p _
    show (if p.1 = k then (p.1, w) else p).1 = p.1
    split <;> rfl
  · rw [List.map_append]; rfl
theorem putZ_nd {ts : List (Str × Str)} (h : (ts.map (·.1)).Nodup) (k w : Str) : ((putZ ts k w).map (·.1)).Nodup := by
  rw [putZ_keys]
  split
  · exact h
  · rename_i hn
    rw [List.nodup_append]
    refine ⟨h, by simp, fun a ha b hb e => hn ?_⟩
    rw [List.mem_singleton] at hb
    obtain ⟨p, hp, rfl⟩ := List.mem_map.mp ha
    exact List.any_eq_true.mpr ⟨p, hp, decide_eq_true (e.trans hb)⟩
theorem putZ_len (ts : List (Str × Str)) (k w : Str) : (putZ ts k w).length ≤ ts.length + 1 := by
  have h := congrArg List.length (putZ_keys ts k w)
  rw [List.length_map] at h
  rw [h]
  split
  · rw [List.length_map]; omega
  · rw [List.length_append, List.length_map]; exact Nat.le_refl _
def mergeZ (ts more : List (Str × Str)) : List (Str × Str) := more.foldl (fun acc p => putZ acc p.1 p.2) ts
theorem mergeZ_dz : ∀ (more ts : List (Str × Str)), mergeK (dz ts) (dz more) = dz (mergeZ ts more)
  | [], ts => rfl
  | p :: more, ts => by
    show mergeK (putK (dz ts) (Sum.inr p.1 : Key) (.str p.2)) (dz more) = dz (mergeZ (putZ ts p.1 p.2) more)
    rw [putZ_dz, mergeZ_dz more]
theorem mergeZ_nd : ∀ (more : List (Str × Str)) {ts : List (Str × Str)}, (ts.map (·.1)).Nodup → ((mergeZ ts more).map (·.1)).Nodup
  | [], _, h => h
  | p :: more, _, h => mergeZ_nd more (putZ_nd h p.1 p.2)
theorem mergeZ_len : ∀ (more ts : List (Str × Str)), (mergeZ ts more).length ≤ ts.length + more.length
  | [], ts => Nat.le_refl _
  | p :: more, ts => by
    have h1 := mergeZ_len more (putZ ts p.1 p.2)
    have h2 := putZ_len ts p.1 p.2
    show (mergeZ (putZ ts p.1 p.2) more).length ≤ _
    rw [List.length_cons]
    omega
/-! ### a permutation of images -/
theorem perm_map {α β : Type} (f : α → β) : ∀ {zs ys : List β}, zs.Perm ys → ∀ L : List α, ys = L.map f → ∃ L' : List α, L'.Perm L ∧ zs = L'.map f := by
  intro zs ys h
  induction h with
  | nil =>
    intro L e
    cases L with
    | nil => exact ⟨[], .nil, rfl⟩
    | cons _ _ => cases e
  | cons x _ ih =>
    intro L e
    cases L with
    | nil => cases e
    | cons a L =>
      obtain ⟨e1, e2⟩ := List.cons.inj e
      obtain ⟨L', p, r⟩ := ih L e2
      exact ⟨a :: L', p.cons a, by rw [List.map_cons, ← r, ← e1]⟩
  | swap x y l =>
    intro L e
    match L, e with
    | a :: b :: L, e =>
      obtain ⟨e1, e2⟩ := List.cons.inj e
      obtain ⟨e3, e4⟩ := List.cons.inj e2
      exact ⟨b :: a :: L, List.Perm.swap a b L, by rw [List.map_cons, List.map_cons, e1, e3, e4]⟩
  | trans _ _ ih1 ih2 =>
    intro L e
    obtain ⟨L1, p1, r1⟩ := ih2 L e
    obtain ⟨L2, p2, r2⟩ := ih1 L1 r1
    exact ⟨L2, p2.trans p1, r2⟩
/-! ### pairs of texts, sorted -/
def pd (q : Addr × (Str × Str)) : V × PyData := (.ref q.1, .tuple [.str q.2.1, .str q.2.2])
theorem sort_pairs {as : List Addr} {ts : List (Str × Str)} (hl : as.length = ts.length) : ∃ L : List (Addr × (Str × Str)), L.Perm (as.zip ts) ∧ sortD (as.map V.ref) (ts.map fun p => PyData.tuple [.str p.1, .str p.2]) = (L.map (·.1)).map V.ref := by
  have e : (as.map V.ref).zip (ts.map fun p => PyData.tuple [.str p.1, .str p.2]) = (as.zip ts).map pd := by
    rw [List.zip_map]
    rfl
  obtain ⟨L, p, r⟩ := perm_map pd (List.mergeSort_perm ((as.map V.ref).zip (ts.map fun p => PyData.tuple [.str p.1, .str p.2])) (PySem.W.dataLe false (·.2))) (as.zip ts) e
  refine ⟨L, p, ?_⟩
  unfold sortD
  rw [r, List.map_map, List.map_map]
  rfl
theorem pairs_alike (ts : List (Str × Str)) : PySem.W.AllAlike (ts.map fun p => PyData.tuple [.str p.1, .str p.2]) := by
  intro d hd d' hd'
  obtain ⟨p, _, rfl⟩ := List.mem_map.mp hd
  obtain ⟨q, _, rfl⟩ := List.mem_map.mp hd'
  rfl
theorem pairs_sortable (ts : List (Str × Str)) : PySem.W.Sortable (ts.map fun p => PyData.tuple [.str p.1, .str p.2]) := by
  refine .inl fun d hd => ?_
  obtain ⟨p, _, rfl⟩ := List.mem_map.mp hd
  exact ⟨_, _, rfl⟩
theorem pairs_depth (ts : List (Str × Str)) : ∀ d ∈ ts.map (fun p => PyData.tuple [.str p.1, .str p.2]), d.depth ≤ 60 := by
  intro d hd
  obtain ⟨p, _, rfl⟩ := List.mem_map.mp hd
  simp only [PyData.depth, PyData.depthAll]
  decide
theorem paired_zip {α β : Type} {F : α → β → Prop} : ∀ {l : List α} {m : List β}, Paired F l m → ∀ q ∈ l.zip m, F q.1 q.2
  | _, _, .nil, q, h => by cases h
  | _, _, .cons x t, q, h => by
    rw [List.zip_cons_cons] at h
    rcases List.mem_cons.mp h with rfl | h
    · exact x
    · exact paired_zip t q h
theorem paired_of {α β : Type} {F : α → β → Prop} : ∀ L : List (α × β), (∀ q ∈ L, F q.1 q.2) → Paired F (L.map (·.1)) (L.map (·.2))
  | [], _ => .nil
  | q :: L, h => .cons (h q (List.mem_cons_self ..)) (paired_of L fun x hx => h x (List.mem_cons_of_mem _ hx))
theorem paired_mapR {α β γ : Type} {F : α → γ → Prop} (g : β → γ) : ∀ {l : List α} {m : List β}, Paired F l (m.map g) → Paired (fun a b => F a (g b)) l m
  | _, [], .nil => .nil
  | _, _ :: _, .cons x t => .cons x (paired_mapR g t)
theorem paired_mapR' {α β γ : Type} {F : α → γ → Prop} (g : β → γ) : ∀ {l : List α} {m : List β}, Paired (fun a b => F a (g b)) l m → Paired F l (m.map g)
  | _, _, .nil => .nil
  | _, _, .cons x t => .cons x (paired_mapR' g t)
theorem dp_pairs {K : PySem.W.Frag} {H : Hp} : ∀ {as : List Addr} {ts : List (Str × Str)}, Paired (fun (t : Addr) (p : Str × Str) => H t = some (.tup [.str p.1, .str p.2])) as ts → DpAll K H (as.map V.ref) (ts.map fun p => PyData.tuple [.str p.1, .str p.2])
  | _, _, .nil => .nil
  | _, _, .cons x t => .cons (.tup (stt x) (.cons (.str _) (.cons (.str _) .nil))) (dp_pairs t)
end HS
/-! y = {k: v for ..}: a dict comprehension given to a local name -/
namespace HD
open PySem PySem.Spec PySem.Calls PyProof.Rows L2
section
variable {X : Cx}
theorem sw_dict {kx vx : Expr} {gs : List Comprehension} {scope : Scope} {pos py : Pos} {y : Str} {l : Nat} {env : Env} (hk : env.scope.kind = .function) (hy : env.scope.names.lookup y = some .local) (hl : (py.line == pos.line) = true)
    (ha : (scope.names.any fun (n, k) => n == y && (k == .local || k == .cell)) = false) : swapsWith (.DictComp kx vx gs scope pos) (some (.Name y py)) l env = pure true := by
  have k1 : env.blockKind = .function := by
    unfold Env.blockKind
    rw [hk] <;> rfl
  have k2 : env.kindOf y = some .local := hy
  unfold swapsWith
  simp only [k1, k2, ha, Expr.pos, hl]
  rfl
theorem ps_setDc {i : Nat} {y : Str} {py : Pos} {kx vx tg iter : Expr} {ifs : List Expr} {scope : Scope} {own : List (Str × Nat)} {pos spos : Pos} {wi : TI} {g : TG} {tt : TT} {tk tv : TE} (hc : X.calm = true) (hN : X.N.Nodup) (hy : X.N[i]? = some y) (hyl : X.env.scope.names.lookup y = some .local)
    (hsw : swapsWith (.DictComp kx vx [⟨tg, iter, ifs, 0⟩] scope pos) (some (.Name y py)) spos.line X.env = pure true) (hi : PI X tg iter wi) (ok : BlkOk X.N X.env.scope scope own)
    (hg : ∀ (s : Shared) (H : Hp) (C : Addr) (cl : List (Str × Addr)) (fp : List Addr), PG (X.blk s H scope (compEnvC scope cl C X.env) fp) tg g) (ht : ∀ (s : Shared) (H : Hp) (C : Addr) (cl : List (Str × Addr)) (fp : List Addr), PTs (X.blk s H scope (compEnvC scope cl C X.env) fp) ifs tt)
    (hk : ∀ (s : Shared) (H : Hp) (C : Addr) (cl : List (Str × Addr)) (fp : List Addr), PE (X.blk s H scope (compEnvC scope cl C X.env) fp) kx tk)
    (he : ∀ (s : Shared) (H : Hp) (C : Addr) (cl : List (Str × Addr)) (fp : List Addr), PE (X.blk s H scope (compEnvC scope cl C X.env) fp) vx tv) (hs : ∀ x, foldedSetIterable iter X.env x = pure x := by intro _; rfl) :
    PS X (.Assign [.Name y py] (.DictComp kx vx [⟨tg, iter, ifs, 0⟩] scope pos) spos) (tAsg (tDc wi g tt tk tv (own.map (·.2))) (gName i)) := by
  refine ⟨fun pins s σ H D I h => ?_⟩
  rw [exec_Assign_Name_used _ _ _ _ hsw]
  refine wpAny_bind (wpAny_standAt (wpAny_bind ?_))
  show wpAny _ X.A (do let _ ← comprehension (.DictComp kx vx [⟨tg, iter, ifs, 0⟩] scope pos) scope X.env (firstIterPos [⟨tg, iter, ifs, 0⟩] pos) newDict false (eval iter X.env) (some (assign (.Name y py) X.env))) _ _ s
  have h : tDc wi g tt tk tv (own.map (·.2)) σ H (fun x H1 => gName i x σ H1 D.nx) := h
  refine wpAny_bind (thn (dc_core (Qf := fun _ s' => SP X pins D .next s') hc hN I hi ok hg ht hk he hs h fun L C s' m H' I' q hn f => ?_) fun _ s' hq => wpAny_pure (wpAny_pure hq))
  show wpAny _ _ (assign (.Name y py) X.env (.ref L)) _ _ _
  refine wpAny_assign_Name (store_ok2 (v := V.ref L) I' hN hy (.inl hyl) rfl (fun s2 I2 ⟨a, sb, ha⟩ => ?_) (.inr hyl))
  obtain ⟨f0, f1, f2, f3, f4, f5⟩ := f
  have haC : C ≠ a := ha.elim (fun z => z ▸ f1) fun z e => f4 y a z e.symm
  exact ⟨m, hn.sameBut sb haC, fun h3 sb3 => ⟨_, H', I2.turned (t' := s2.toks) (fun b o hb e => (sb3.2 b hb).trans e) f0 f1 f3 f4 f5, q⟩⟩
end
end HD
/-! tuples: t + u of any two; t[lo:hi], the whole too -/
namespace HT2
open PySem PySem.Spec PySem.Calls PyProof.Rows L2 HT
section
variable {X : Cx}
/-- t + u: the other one where one of them is empty -/
def rCatA (K : PySem.W.Frag) : R2 := fun x y H Q => ∃ a b xs ys, x = .ref a ∧ y = .ref b ∧ SqT K H a xs ∧ SqT K H b ys ∧ xs.length + ys.length ≤ sizeLine ∧
  (xs = [] → Q (.ref b) H) ∧ (xs ≠ [] → ys = [] → Q (.ref a) H) ∧ (xs ≠ [] → ys ≠ [] → ∀ p, H p = none → Q (.ref p) (upd H p (.tup (xs ++ ys))))
theorem op_catA : OpR X (binaryOp .Add) (rCatA X.K) := by
  intro pins s σ H x y v u Q I rx ry h
  obtain ⟨a, b, xs, ys, rfl, rfl, ha, hb, hz, q0, q1, q2⟩ := h
  by_cases hx : xs = []
  · subst hx
    cases rx
    cases ry
    obtain ⟨its, r1, p1, _⟩ := I.tuple ha
    obtain ⟨its2, r2, p2, _⟩ := I.tuple hb
    cases r1
    obtain ⟨⟨c1, d1, t1, l1⟩, o1, k1, n1, m1⟩ := id p1
    obtain ⟨⟨c2, d2, t2, l2⟩, o2, k2, n2, m2⟩ := id p2
    simp only at k1 m1 k2 m2
    subst k1 m1 k2 m2
    exact concat_meets ⟨_, o1, rfl⟩ ⟨_, o2, rfl⟩ noFill_tuple_add seq_tuple_add PySem.F.slot_tuple_add PySem.F.entry_tuple_add (PySem.F.args_tuple_add_2 _ _)
      (tuple_addW0 a b _ its2.toArray n1 n2 d1 d2 l1 l2 (by simp)) ⟨o1, o2, .ref b, H, I, rfl, q0 rfl⟩
  · exact op_catT pins s σ H _ _ v u Q I rx ry ⟨a, b, xs, ys, rfl, rfl, ha, hb, hx, hz, q1 hx, q2 hx⟩
/-- the whole of a tuple is the tuple -/
theorem slice_whole {prog : Program} {w : World} {A : Around} {E : Value → Shared → Prop} {s : Shared} {t sl : Addr} {items : Array Value} {vl vu : Value} {lo hi : Option Int} {Q : Value → Shared → Prop} (ht : IsTup s.heap t items) (hs : s.heap.IsSliceOf sl vl vu .none) (pl : IsPart vl lo) (pu : IsPart vu hi)
    (hw : sIx items.size 0 lo = 0 ∧ sIx items.size items.size hi = items.size) (h : Q (.ref t) s) : wpAny (model prog w) A (getItem (.ref t) (.ref sl)) Q E s := by
  obtain ⟨os, hos, hcs, hds⟩ := id hs
  have hTs : s.TypeIs (.ref sl) "slice" := ⟨os, hos, hcs⟩
  unfold getItem
  refine wpAny_holding ?_
  refine wpAny_bind (wpAny_sequenceKey ht.typeIs (by decide) ?_)
  refine wpAny_bind (wpAny_callSpecial?_slot (name := Str.ofString "__getitem__") ht.typeIs PyProof.Rows.slot_tuple_getitem
    (wpAny_call_entry PyProof.Rows.slot_tuple_getitem ht.typeIs entry_tuple_getitem ?_ (args_tuple_getitem _ _)))
  show wpAny _ _ (Builtin.Tuple.tupleItemsOf (.ref t) >>= _) _ _ s
  refine wpAny_bind (tupleItemsOf_ ht ?_)
  refine wpAny_bind (wpAny_typeOf hTs ?_)
  rw [if_pos (by decide)]
  refine wpAny_bind (sliceApplied_gen hs pl pu ?_)
  have yes : (((sIx items.size 0 lo : Nat) : Int) == 0 && (1 : Int) == 1 && (sIx items.size items.size hi - sIx items.size 0 lo) == items.size) = true := by
    rw [hw.1, hw.2]
    simp
  show wpAny _ _ (if (((sIx items.size 0 lo : Nat) : Int) == 0 && (1 : Int) == 1 && (sIx items.size items.size hi - sIx items.size 0 lo) == items.size) = true then _ else _) _ _ s
  rw [if_pos yes]
  unfold Builtin.Tuple.tupleIsExact
  refine wpAny_bind (wpAny_bind (wpAny_typeOf ht.typeIs (wpAny_pure ?_)))
  rw [if_pos (by decide)]
  exact wpAny_bind (wpAny_rule (wpAny_pure ⟨_, rfl, wpAny_pure h⟩))
/-- t[lo:hi] -/
def rSlA (K : PySem.W.Frag) : V → Option Int → Option Int → Hp → VK → Prop := fun x lo hi H Q => ∃ a xs, x = .ref a ∧ SqT K H a xs ∧
  (HT.sIx xs.length 0 lo = 0 ∧ HT.sIx xs.length xs.length hi = xs.length → Q (.ref a) H) ∧ (¬ (HT.sIx xs.length 0 lo = 0 ∧ HT.sIx xs.length xs.length hi = xs.length) → ∀ p, H p = none → Q (.ref p) (upd H p (.tup (cutV xs lo hi))))
theorem sl_tupA : SlR X (rSlA X.K) := by
  intro pins s σ H x v vl vu lo hi sl Q I rx hs pl pu h
  obtain ⟨a, xs, rfl, hx, q1, q2⟩ := h
  by_cases hw : HT.sIx xs.length 0 lo = 0 ∧ HT.sIx xs.length xs.length hi = xs.length
  · cases rx
    obtain ⟨its, r, ht, hz⟩ := I.tuple hx
    have hlen : its.toArray.size = xs.length := by rw [List.size_toArray]; exact r.length.symm
    refine ⟨"tuple", _, PyProof.Rows.slot_tuple_getitem.lookup, ht.typeIs, ?_⟩
    exact slice_whole ht hs pl pu (by rw [hlen]; exact hw) ⟨.ref a, H, I, rfl, q1 hw⟩
  · exact sl_tup pins s σ H _ v vl vu lo hi sl Q I rx hs pl pu ⟨a, xs, rfl, hx, hw, q2 hw⟩
end
end HT2
/-! set(xs) of a list of texts: any number of them; len(set(xs)) -/
namespace HV
open PySem PySem.Spec PyProof.Rows
/-- how many unlike ones among the first i -/
def uq (xs : List Str) : Nat → Nat
  | 0 => 0
  | i + 1 => if (xs.take i).any (· == xs.getD i Str.empty) then uq xs i else uq xs i + 1
theorem uq_le (xs : List Str) : ∀ i, uq xs i ≤ i
  | 0 => Nat.le_refl _
  | i + 1 => by
    have := uq_le xs i
    unfold uq
    split <;> omega
theorem any_take {xs : List Str} {i : Nat} (h : i < xs.length) (k : Str) : ((xs.take i).any (· == k) || decide (k = xs.getD i Str.empty)) = (xs.take (i + 1)).any (· == k) := by
  have e : xs.getD i Str.empty = xs[i] := by rw [List.getD_eq_getElem?_getD, List.getElem?_eq_getElem h]; rfl
  rw [List.take_add_one, List.getElem?_eq_getElem h, List.any_append, e]
  congr 1
  show decide (k = xs[i]) = ([xs[i]].any (· == k))
  rw [List.any_cons, List.any_nil, Bool.or_false]
  exact Bool.eq_iff_iff.mpr ⟨fun q => beq_iff_eq.mpr (of_decide_eq_true q).symm, fun q => decide_eq_true (beq_iff_eq.mp q).symm⟩
theorem uq_all {xs : List Str} : ∀ i, i ≤ xs.length → (uq xs i = i ↔ (xs.take i).Nodup)
  | 0, _ => by simp [uq]
  | i + 1, hi => by
    have ih := uq_all i (Nat.le_of_succ_le hi)
    have hl := uq_le xs i
    have e : xs.getD i Str.empty = xs[i] := by rw [List.getD_eq_getElem?_getD, List.getElem?_eq_getElem hi]; rfl
    have e2 : xs.take (i + 1) = xs.take i ++ [xs[i]] := by rw [List.take_add_one, List.getElem?_eq_getElem hi]; rfl
    rw [e2, List.nodup_append]
    unfold uq
    rw [e]
    cases hb : (xs.take i).any (· == xs[i]) with
    | true =>
      rw [if_pos rfl]
      obtain ⟨y, hy, ey⟩ := List.any_eq_true.mp hb
      refine ⟨fun q => by omega, fun q => ?_⟩
      exact absurd (beq_iff_eq.mp ey) (q.2.2 y hy xs[i] (List.mem_singleton.mpr rfl))
    | false =>
      rw [if_neg Bool.false_ne_true]
      refine ⟨fun q => ⟨ih.mp (by omega), (by simp), fun a ha b hb2 ab => ?_⟩, fun q => by have := ih.mpr q.1; omega⟩
      rw [List.mem_singleton.mp hb2] at ab
      have : (xs.take i).any (· == xs[i]) = true := List.any_eq_true.mpr ⟨a, ha, beq_iff_eq.mpr ab⟩
      rw [hb] at this
      cases this
section
variable {prog : Program} {w : World} {A : Around} {R : Result → Shared → Prop} {I : Addr} {fp wr : List Addr} {G : Array GenState → Array GenState → Prop} {n : Nat} {P : Nat → Value → Prop} {St : Nat → Shared → Prop}
/-- the set after i of the texts -/
def At (prog : Program) (w : World) (xs : List Str) (S : Addr) (i : Nat) (h : Heap) : Prop := h.SetOf (PySem.strKind prog w) S (fun k' => (xs.take i).any (· == k')) (uq xs i)
theorem At.keep {xs : List Str} {S : Addr} {i : Nat} {h h' : Heap} (a : At prog w xs S i h) (k : ∀ o, h.get? S = some o → h'.get? S = some o) : At prog w xs S i h' := by
  obtain ⟨o, es, ep, t, ho, rest⟩ := a
  exact ⟨o, es, ep, t, k o ho, rest⟩
theorem loopV (W : WalksS prog w A.in1 I fp wr G n P St) (S : Addr) (nf : S ∉ fp) (xs : List Str) (len : xs.length = n) (few : n + 1 < scanBound) (val : ∀ i v, P i v → ∃ t, v = .str (xs.getD i Str.empty) t) :
    ∀ (d i : Nat) (s : Shared), i + d = n → St i s → At prog w xs S i s.heap → (∀ s', Moved (S :: wr) G s s' → At prog w xs S n s'.heap → R (.ok (.ret .none)) s') →
      codeAny (model prog w) A (.builtin "set.update.loop" ⟨[.ref S, .ref I], []⟩) R s := by
  have nw : S ∉ wr := fun h => nf (W.sub _ h)
  have grow : ∀ b ∈ wr, b ∈ S :: wr := fun b hb => List.mem_cons_of_mem _ hb
  intro d
  induction d with
  | zero =>
    rintro i s rfl hst hS hR
    refine codeAny_builtin PyProof.Rows.F.entry_set_update_loop ?_
    rw [Around.under_plainId PyProof.Rows.F.plain_set_update_loop _]
    show wpAny _ A.in1 (pyNext (.ref I) >>= _) _ _ s
    refine wpAny_bind (W.done s _ _ hst fun s' mv => ?_)
    exact wpAny_pure (hR s' (mv.mono grow) (hS.keep fun o => mv.heap S o nw))
  | succ d ih =>
    intro i s hi hst hS hR
    have lt : i < n := by omega
    refine codeAny_builtin PyProof.Rows.F.entry_set_update_loop ?_
    rw [Around.under_plainId PyProof.Rows.F.plain_set_update_loop _]
    show wpAny _ A.in1 (pyNext (.ref I) >>= _) _ _ s
    refine wpAny_bind (W.item i s _ _ lt hst fun v s' pv hst' mv => ?_)
    obtain ⟨t, rfl⟩ := val i v pv
    have hS' := hS.keep fun o => mv.heap S o nw
    show wpAny _ A.in1 (holding [Value.str (xs.getD i Str.empty) t] (setAdd S (.str (xs.getD i Str.empty) t)) >>= _) _ _ s'
    refine wpAny_bind (wpAny_holding ?_)
    unfold setAdd
    refine wpAny_holding (wpAny_bind ((PySem.strKind prog w).pyHash (k := xs.getD i Str.empty) (strKind_is _ _ _ _) ?_))
    refine wpAny_setAddHashed_of (knd := PySem.strKind prog w) (s := { s' with toks := s'.toks + 1 }) (strKind_is _ _ _ _) rfl hS' (by have := uq_le xs i; omega) fun h' same hS2 => ?_
    have next : At prog w xs S (i + 1) h' := PyProof.Rows.SetOf_congr hS2 (fun k => any_take (by omega) k) rfl
    refine wpAny_pure ⟨plainId_quiet PyProof.Rows.F.plain_set_update_loop _, ih (i + 1) _ (by omega) (W.frame _ s' _ _ hst' (Nat.le_succ _) fun b hb o e => ?_) next fun s'' mv2 hS3 => hR s'' (Moved.trans W.gtrans ((mv.mono grow).then_heap (Nat.le_succ _) fun b o hb e => ?_) mv2) hS3⟩
    · rw [same.2 b (fun h => nf (h ▸ hb))]
      exact e
    · rw [same.2 b (fun h => hb (h ▸ List.mem_cons_self))]
      exact e
end
section
variable {prog : Program} {w : World} {A : Around} {E : Value → Shared → Prop} {s : Shared}
/-- the empty set that set.__new__ lays -/
abbrev bare (led : Bool) : Obj := { cls := .type "set", dict := none, data := .set #[] 0 (.fresh 0 0 led) }
set_option maxHeartbeats 3200000 in
theorem set_texts {l : Addr} {items : Array Value} {xs : List Str} {Q : Value → Shared → Prop} (calm : A.handled = none) (hl : s.heap.IsList l items) (hi : PyProof.Rows.StrsAre items.toList xs) (few : xs.length + 1 < scanBound)
    (h : ∀ (h' : Heap) (tk : Nat), At prog w xs s.heap.objs.size xs.length h' → (∀ b o, b < s.heap.objs.size → s.heap.get? b = some o → h'.get? b = some o) → Q (.ref s.heap.objs.size) { s with heap := h', toks := tk }) :
    wpAny (model prog w) A (call (.type "set") [.ref l]) Q E s := by
  have len : xs.length = items.size := by rw [← StrsAre.len_eq hi, Array.length_toList]
  obtain ⟨c, tl, hmro⟩ := PySem.F.called_set.mro
  have hmade := PySem.F.called_set.made
  have hsub := PySem.F.called_set.sub
  have h1 := PySem.F.called_set.notType
  have h2 := PySem.F.called_set.canCreate
  have hct := PySem.F.typeCall_set_1 (.ref l)
  refine wpAny_call (codeAny_of_tree ?_)
  show wpAny _ _ (callAny (.type "set") _) _ _ _
  refine wpAny_pure ⟨Code.quiet_builtin _ (by decide +kernel), codeAny_builtin PySem.F.entry_type_call ?_⟩
  rw [Around.under_plain (weight_type_call_type "set" [.ref l] []) rfl]
  repeat (any_goals (first | assumption | wp_step))
  refine codeAny_mono (code_set_new_1 (.ref l) (E := E) (Q₁ := fun obj s₁ => ∃ led, obj = .ref s.heap.objs.size ∧ s₁ = { s with heap := s.heap.push (bare led) }) fun led => ⟨led, rfl, rfl⟩) fun r s₁ hr => ?_
  rcases r with e | fl
  · exact hr
  cases fl with
  | ret obj =>
    obtain ⟨led, rfl, rfl⟩ := hr
    have hS : (s.heap.push (bare led)).get? s.heap.objs.size = some (bare led) := Heap.get?_push_size _ rfl
    have hT : Shared.TypeIs { s with heap := s.heap.push (bare led) } (.ref s.heap.objs.size) "set" := ⟨_, hS, rfl⟩
    have hli := PySem.F.called_set.init.lookup
    have hbi := PySem.F.called_set.init.bind (.ref s.heap.objs.size)
    repeat (any_goals (first | assumption | wp_step))
    refine codeAny_mono (codeAny_call_builtin (R := wants (fun r s₂ => r = .none ∧ ∃ h' tk, s₂ = { s with heap := h', toks := tk } ∧ At prog w xs s.heap.objs.size xs.length h' ∧ (∀ b o, b < s.heap.objs.size → s.heap.get? b = some o → h'.get? b = some o)) E)
      PySem.F.called_set.init.plain PySem.F.entry_set_init (check_set_init_1 hT ?_)) fun r₂ s₂ hr₂ => ?_
    · obtain ⟨⟨ocls, odict, odata, oslots⟩, hol, hcl, nl, hdl⟩ := hl
      simp only at hcl hdl
      subst hcl; subst hdl
      have hlS : l < s.heap.objs.size := Heap.lt_size hol
      have hol' := Heap.get?_push_of_some (bare led) hol
      have hl1 : (s.heap.push (bare led)).IsList l items := ⟨_, hol', rfl, nl, rfl⟩
      have hsls := PySem.F.sub_list_set
      have hslf := PySem.F.sub_list_frozenset
      have hne : (Value.type "list" == Value.type "dict") = false := by decide
      unfold Builtin.«set.__init__» noKeywords Builtin.Frozenset.updateFrom
      generalize hPI : pyIter = PI
      wp_walk
      subst hPI
      refine wpAny_pyIter_list hl1 (wpAny_bind (wpAny_runValue ?_))
      have sz : (s.heap.push (bare led)).objs.size = s.heap.objs.size + 1 := Heap.size_push ..
      have calm3 : A.in1.in1.in1.handled = none := by simp [calm]
      have hval : ∀ (i : Nat) (v : Value), items[i]? = some v → ∃ t, v = .str (xs.getD i Str.empty) t := fun i v hv => SS.strs_at hi i v (by rw [Array.getElem?_toList]; exact hv)
      refine loopV (n := items.size) ((Walks.list calm3 _ l (by rw [sz]; exact Nat.ne_of_lt (Nat.lt_succ_of_lt hlS)) items).toS) s.heap.objs.size (by rw [sz]; simp only [List.mem_cons, List.not_mem_nil, or_false, not_or]; exact ⟨Nat.ne_of_lt (Nat.lt_succ_self _), Nat.ne_of_gt hlS⟩) xs len (by omega) hval items.size 0 _ (by omega)
        ⟨⟨_, Heap.get?_push_size _ rfl, rfl, rfl⟩, (hl1.push _)⟩ ?zS ?zR
      case zS =>
        have hget := Heap.get?_push_of_some ({ cls := .type "list_iterator", data := .fields #[.ref l, .int 0 0] } : Obj) hS
        exact PyProof.Rows.SetOf_congr ((PyProof.Rows.setObjOf_fresh (knd := PySem.strKind prog w) led).setOf hget (by unfold scanBound; omega)) (fun _ => rfl) rfl
      case zR =>
        intro s' mv hS'
        obtain ⟨h', g', d', tk', os'⟩ := s'
        cases (show g' = s.gens from mv.gens)
        cases (show d' = s.drawn from mv.drawn)
        cases (show os' = s.os from mv.os)
        refine wpAny_pure (wpAny_pure ⟨rfl, h', tk', rfl, by rw [len]; exact hS', fun b o hb e => ?_⟩)
        exact mv.heap b o (by rw [sz]; simp only [List.mem_cons, List.not_mem_nil, or_false, not_or]; exact ⟨Nat.ne_of_lt hb, Nat.ne_of_lt (Nat.lt_succ_of_lt hb)⟩) (Heap.get?_push_of_some _ (Heap.get?_push_of_some _ e))
    · rcases r₂ with e | fl₂
      · exact hr₂
      cases fl₂ with
      | ret r =>
        obtain ⟨rfl, h', tk, rfl, hS', hk'⟩ := hr₂
        repeat (any_goals (first | assumption | wp_step))
        exact h _ _ hS' hk'
      | _ => exact hr₂.elim
  | _ => exact hr.elim
end
section
open L2
/-- len(set(xs)), xs a list of texts -/
def tLenSetS (K : PySem.W.Frag) (ta : TE) : TE := fun σ H Q => ta σ H fun x H1 => ∃ (l : Addr) (xs : List Str), x = .ref l ∧ SqL K H1 l (xs.map V.str) ∧ xs.length ≤ 1000 ∧ Q (.int (uq xs xs.length : Nat)) H1
theorem pe_lenSetS {X : Cx} {a : Expr} {ta : TE} {p p2 q pos : Pos} (hg : Gl X "len") (hm : X.mg "len" = none) (hg2 : Gl X "set") (hm2 : X.mg "set" = none) (ha : PE X a ta) (hc : X.calm = true := by rfl)
    (na : starEach [a] X.env = (false, eval a X.env) :: starEach [] X.env := by rfl) : PE X (.Call (.Name "len" p) [.Call (.Name "set" p2) [a] [] q] [] pos) (tLenSetS X.K ta) := by
  refine ⟨fun pins s σ H Q I h => ?_⟩
  refine Call_ (ld_blt I hg hm boot_len (PyProof.Rows.callWith_builtin1 (PyProof.Rows.args_cons ?_ rfl) rfl rfl))
  refine Call_ (ld_blt I hg2 hm2 boot_set (PyProof.Rows.callWith_type1 (PyProof.Rows.args_cons (thn (ha.run pins s σ H _ I h) fun v s1 ⟨x, H1, I1, r1, q1⟩ => PyProof.Rows.args_nil ?_) na) na rfl))
  obtain ⟨l, xs, rfl, hq, hl, q1⟩ := q1
  cases r1
  obtain ⟨its, r, pl, _⟩ := I1.list hq
  refine set_texts (I1.ok.hd hc) pl.isList (by simpa using strsAre_of r) (by unfold scanBound; omega) fun h' tk hS hk => PyProof.Rows.args_nil ?_
  obtain ⟨o, es, ep, t, ho, hex, hd, _, _, _, hf, hn⟩ := hS
  have I2 : Inv X pins σ H1 { s1 with heap := h', toks := tk } := I1.kept fun b o e => hk b o (Heap.lt_size e) e
  have hu := uq_le xs xs.length
  exact call_len_set ho hex hd hf (by rw [hn] <;> omega) ⟨.int (uq xs xs.length), H1, I2.tok _, ⟨_, by rw [hn]⟩, q1⟩
end
end HV
/-! Base.__init__(self, ..): an own class over ValueError that has no __init__ of its own -/
namespace HY
open PySem PySem.Spec PyProof.Rows L2
/-- what the written part says of the base -/
structure BaseI (K : PySem.W.Frag) (Y : Addr) : Prop where
  ga : PySem.W.specialIn K (.ref Y) "__getattribute__" = some (some (.builtin "type.__getattribute__"))
  ty : PySem.W.typeIn K (.ref Y) = some (.type "type")
  rd : PySem.W.readsIn K Y (.type "type") = true
  it : PySem.W.findCls K (.ref Y) (.type "type") "__init__" = some (.val (.builtin "ValueError.__init__"))
section
variable {X : Cx} {e : Expr} {es : List Expr} {ta : TA} {x : Str} {Y : Addr} {p1 p2 pos : Pos}
theorem pe_baseinit {pl : Sem Bool} (B : BaseI X.K Y) (hg : Gl X x) (hm : X.mg x = some (.ref Y)) (ha : PA X (e :: es) ta) (hdb : (x == ("__debug__" : Str)) = false := by decide)
    (hc : eval (.Call (.Attribute (.Name x p1) "__init__" p2) (e :: es) [] pos) X.env = (do
      let ov ← eval (.Name x p1) X.env
      standAt p2.atName
      let (f, first) ← holding [ov] (getMethod ov "__init__" pl)
      callWith pos f first (backTo pos (starEach (e :: es) X.env)) (backToKw pos (keywordEach [] X.env))) := by rfl)
    (he : starEach (e :: es) X.env = (false, eval e X.env) :: starEach es X.env := by rfl) (hpl : (backTo pos (starEach es X.env)).any (·.1) = false := by rfl) :
    PE X (.Call (.Attribute (.Name x p1) "__init__" p2) (e :: es) [] pos) (tVeI X.K ta) := by
  refine ⟨fun pins s σ H Q I h => ?_⟩
  refine PySem.W.methodCall_KW (ld_glob I hg hm ?_ hdb) hc
  obtain ⟨m, fr⟩ := I.fr
  refine PySem.W.method_of_cls fr I.ok.mod.kin B.ga (PySem.W.cls_val fr I.ok.mod.kin B.ty B.rd B.it (by decide +kernel) ?_)
  show wpAny _ _ (callWith pos (Value.builtin "ValueError.__init__") [] (backTo pos (starEach (e :: es) X.env)) []) _ _ _
  refine PyProof.Rows.callWith_method1 (thn (ha.run pos pins _ σ H _ (I.tok _) h) fun us s1 ⟨vs, H1, I1, r1, a, C, ws, ev, hl, T, ea, q⟩ => ?_) he hpl
  subst ev
  cases r1 with
  | @cons _ u0 _ ur ra rw' =>
    obtain rfl : u0 = Value.ref a := ra
    have hlen : ur.length ≤ sizeLine := by
      rw [← Paired.length rw', sizeLine_eq]
      omega
    exact oinit_ok T I1 ea hlen fun s' J => ⟨.non, H1, J, rfl, q⟩
end
end HY
/-! own exception classes told by the head; raise C(e); C(e, k = v) that may raise in a try -/
namespace HQ
open PySem PySem.Spec PySem.Calls PyProof.Rows L2 He
/-! ### what the head tells of such a class -/
def exB1 (K : PySem.W.Frag) (C : Addr) : Bool := match K.lookup C with
  | some ⟨.type t, _, .cls cd, sl⟩ => (match cd.mro, sl.toList with
    | .ref D :: bm, [_, _, _, _, some (.builtin n), _] => decide (t = "type") && (decide (D = C) && (decide (n = "ValueError.__new__") && (!cd.hasDel && (cd.hasDict && PySem.HandSPX.refsVE bm))))
    | _, _ => false)
  | _ => false
def exB (K : PySem.W.Frag) (C : Addr) : Bool := exB1 K C && (decide (PySem.W.findIn K (.ref C) "__setattr__" = some (some (.builtin "object.__setattr__"))) &&
  (decide (PySem.W.subIn K (.ref C) (.type "BaseException") = some true) && (decide (PySem.W.typeIn K (.ref C) = some (.type "type")) && (PySem.W.keepIn K (.ref C) && xfB K C))))
theorem exB1_ok {K : PySem.W.Frag} {C : Addr} (h : exB1 K C = true) : ∃ nm q N bs bm sn sub ab col dd k0 k1 k2 k3 k5, K.lookup C = some (excClassObj nm q C N bs bm true sn sub ab col dd k0 k1 k2 k3 k5 "ValueError.__new__") ∧ PySem.HandSPX.refsVE bm = true := by
  unfold exB1 at h
  split at h
  · rename_i t dd cd sl ho
    split at h
    · rename_i D bm k0 k1 k2 k3 n k5 hm hs
      obtain ⟨e1, h⟩ := ba h
      obtain ⟨e2, h⟩ := ba h
      obtain ⟨e3, h⟩ := ba h
      obtain ⟨e4, h⟩ := ba h
      obtain ⟨e5, e6⟩ := ba h
      have e1 := of_decide_eq_true e1
      have e2 := of_decide_eq_true e2
      have e3 := of_decide_eq_true e3
      obtain ⟨nm, bs, mro, ns, qn, hd, sn, sub, ab, col, del⟩ := cd
      dsimp only at hm e4 e5
      subst hm e1 e2 e3 e5
      have e4 : del = false := by cases del <;> first | rfl | cases e4
      subst e4
      have hsl : sl = #[k0, k1, k2, k3, some (.builtin "ValueError.__new__"), k5] := by
        obtain ⟨l⟩ := sl
        simp only at hs
        rw [hs]
      subst hsl
      exact ⟨nm, qn, ns, bs, bm, sn, sub, ab, col, dd, k0, k1, k2, k3, k5, ho, e6⟩
    · cases h
  · cases h
theorem exB_ok {K : PySem.W.Frag} {C : Addr} (h : exB K C = true) : OexC K C ∧ XfC K C := by
  obtain ⟨h1, h⟩ := ba h
  obtain ⟨h2, h⟩ := ba h
  obtain ⟨h3, h⟩ := ba h
  obtain ⟨h4, h⟩ := ba h
  obtain ⟨h5, h6⟩ := ba h
  exact ⟨⟨exB1_ok h1, of_decide_eq_true h2, of_decide_eq_true h3, of_decide_eq_true h4, h5⟩, xfB_ok h6⟩
def inB (K : PySem.W.Frag) (C : Addr) : Bool := decide (PySem.W.findIn K (.ref C) "__init__" = some (some (.ref (ma K C "__init__")))) && decide (PySem.W.typeIn K (.ref (ma K C "__init__")) = some (.type "function"))
theorem inB_ok {K : PySem.W.Frag} {C : Addr} (h : inB K C = true) : PySem.W.findIn K (.ref C) "__init__" = some (some (.ref (ma K C "__init__"))) ∧ PySem.W.typeIn K (.ref (ma K C "__init__")) = some (.type "function") := by
  obtain ⟨h1, h2⟩ := ba h
  exact ⟨of_decide_eq_true h1, of_decide_eq_true h2⟩
/-- the base whose __init__ is ValueError's -/
def bsB (K : PySem.W.Frag) (Y : Addr) : Bool := decide (PySem.W.specialIn K (.ref Y) "__getattribute__" = some (some (.builtin "type.__getattribute__"))) && (decide (PySem.W.typeIn K (.ref Y) = some (.type "type")) &&
  (PySem.W.readsIn K Y (.type "type") && (match PySem.W.findCls K (.ref Y) (.type "type") "__init__" with
    | some (.val (.builtin n)) => decide (n = "ValueError.__init__")
    | _ => false)))
theorem bsB_ok {K : PySem.W.Frag} {Y : Addr} (h : bsB K Y = true) : HY.BaseI K Y := by
  obtain ⟨h1, h⟩ := ba h
  obtain ⟨h2, h⟩ := ba h
  obtain ⟨h3, h4⟩ := ba h
  refine ⟨of_decide_eq_true h1, of_decide_eq_true h2, h3, ?_⟩
  cases e : PySem.W.findCls K (.ref Y) (.type "type") "__init__" with
  | none => rw [e] at h4; cases h4
  | some r =>
    rw [e] at h4
    cases r with
    | val u =>
      cases u with
      | builtin n =>
        have e2 : n = "ValueError.__init__" := of_decide_eq_true h4
        rw [e2]
      | _ => cases h4
    | _ => cases h4
/-! ### raise C(e) -/
/-- __init__(self, y): self.f = y, and no more -/
def spEx (C : Addr) (f : Str) : Sp := fun vs H Q _ => ∃ (a : Addr) (y : V), vs = [.ref a, y] ∧ H a = some (exo a C none) ∧ ∀ d, H d = none → d ≠ a → Q .non (upd (upd H d (exd d [(f, y)])) a (exo a C (some d)))
/-- behind the making: the new error's own dict -/
theorem mkO_of {C : Addr} {f : Str} {y : V} {H : Hp} {Q : XK} (h : ∀ d, H d = none → Q (.ref C) (some d) (upd H d (.xd [(f, y)]))) :
    [y].length ≤ 1000 ∧ ∀ a, H a = none → spEx C f (.ref a :: ([y] ++ [])) (upd H a (exo a C none)) (fun v H2 => v = .non ∧ ∃ (d : Addr) (fs : List (Str × V)), H2 a = some (exo a C (some d)) ∧ H2 d = some (exd d fs) ∧ H d = none ∧ Q (.ref C) (some d) (upd (del H2 a) d (.xd fs))) (fun _ _ _ => False) := by
  refine ⟨by show 1 ≤ 1000; decide, fun a na => ⟨a, y, rfl, upd_same, fun d nd hda => ⟨rfl, d, [(f, y)], upd_same, by rw [upd_ne hda, upd_same], by rwa [upd_ne hda] at nd, ?_⟩⟩⟩
  have nd' : H d = none := by rwa [upd_ne hda] at nd
  have e : upd (del (upd (upd (upd H a (exo a C none)) d (exd d [(f, y)])) a (exo a C (some d))) a) d (.xd [(f, y)]) = upd H d (.xd [(f, y)]) := by
    funext b
    by_cases hb : b = d
    · subst hb; rw [upd_same, upd_same]
    · rw [upd_ne hb, upd_ne hb]
      by_cases hba : b = a
      · subst hba; rw [del_same, na]
      · rw [del_ne hba, upd_ne hba, upd_ne hb, upd_ne hba]
  rw [e]
  exact h d nd'
/-! ### C(e, .., k = v, ..) that may raise, within a try: the wish knows the slots -/
def tMakeS (C : Addr) (n m : Nat) (sp : Sp) (gV : List V → List V → List V) (W : WX) (t tk : TA) : TE := fun σ H Q => t σ H fun vs H1 => tk σ H1 fun zs H2 => vs.length = n ∧ zs.length = m ∧
  ∀ x dx, H2 x = none → H2 dx = none → dx ≠ x → sp (gV (.ref x :: vs) zs) (upd (upd H2 dx (.own x)) x (.ins C dx [])) (fun v H3 => v = .non ∧ Q (.ref x) H3) (WE W σ)
section
variable {X : Cx} {k n : Nat} {f C : Addr} {fd : FuncData} {ps ks : List Str} {sp : Sp} {W : WX} {x : Str} {p pos : Pos} {e : Expr} {es : List Expr} {kws : List Keyword} {t tk : TA} {g : List Value → List Value → List Value} {gV : List V → List V → List V}
theorem pe_makeS (M : Mk X.K C f) (F : FnOk X.prog X.w X.K X.mg X.base (L2.CX X.prog X.w) k f fd ps sp) (hr : Room (k + 1) X.A) (hg : Gl X x) (hm : X.mg x = some (.ref C)) (hb : KBn X.K fd ps (n + 1) ks g gV) (hx : Takes X W)
    (ha : PA X (e :: es) t) (hkw : PK X kws tk) (hall : (backToKw pos (keywordEach kws X.env)).all (·.1.isSome) = true := by rfl) (hks : (backToKw pos (keywordEach kws X.env)).filterMap (·.1) = ks := by rfl)
    (hdb : (x == ("__debug__" : Str)) = false := by decide) (he : starEach (e :: es) X.env = (false, eval e X.env) :: starEach es X.env := by rfl)
    (hpl : ((backTo pos (starEach (e :: es) X.env)).any (·.1) || (backToKw pos (keywordEach kws X.env)).any (·.1.isNone)) = false := by rfl) : PE X (.Call (.Name x p) (e :: es) kws pos) (tMakeS C n ks.length sp gV W t tk) := by
  constructor
  intro pins s σ H Q I h
  apply wpAny_Call_Name_kw
  apply ld_glob I hg hm _ hdb
  apply PySem.W.callWith_KW (h₀ := X.base) I.ok.mod.kin M.kp hall _ hpl he
  refine thn (ha.run pos pins s σ H _ I h) fun us s1 hh => ?_
  obtain ⟨vs, H1, I1, r, q⟩ := hh
  refine thn (hkw.run pos pins s1 σ H1 _ I1 q) fun ws s2 hh => ?_
  obtain ⟨zs, H2, I2, rz, l1, l2, q2⟩ := hh
  refine ⟨I2.kIn, ?_⟩
  rw [hks]
  have hq := q2 (s2.heap.objs.size + 1) s2.heap.objs.size (I2.hok.fresh (Nat.le_succ _)) (I2.hok.fresh (Nat.le_refl _)) (Nat.ne_of_lt (Nat.lt_succ_self _))
  have J := Inv.made (C := C) I2
  have n1 : (Value.ref (s2.heap.objs.size + 1) :: us).length = n + 1 := by rw [List.length_cons, ← r.length, l1]
  have r1 : Vals (V.ref (s2.heap.objs.size + 1) :: vs) (Value.ref (s2.heap.objs.size + 1) :: us) := .cons rfl r
  have rr := hb.rel r1 rz
  have bnd := hb.to _ (Value.ref (s2.heap.objs.size + 1) :: us) ws J.kIn n1 (rz.length.symm.trans l2)
  have one := F.run _ X.stack _ _ ⟨Value.ref (s2.heap.objs.size + 1) :: us, ks.zip ws⟩ _ _ _ _ (hr.make C us (ks.zip ws)) (J.env0.make C us (ks.zip ws)) bnd rr hq
  refine wpAny_call (make_map (f := f) I2.kIn M.makes M.init (beq_iff_eq.mp M.fn) (codeAny_mono one fun r s' z => ?_))
  match r, z with
  | .error u, z => exact passAt hx σ pins _ _ u s' J z
  | .ok (.ret u), z =>
    obtain ⟨v, H', J2, rv, ev, q3⟩ := J.after z
    subst ev
    exact ⟨rv, .ref (s2.heap.objs.size + 1), H', J2, rfl, q3⟩
end
end HQ
/-! displays of data in one step: tuples of tuples of texts, numbers and names' values -/
namespace HK
open PySem PySem.Spec PyProof.Rows L2 HB
section
variable {K : PySem.W.Frag} {σ : L2.St} {H0 : Hp}
/-- the expression gives this data, and what stood stands -/
def MkE (K : PySem.W.Frag) (σ : L2.St) (H0 : Hp) (t : TE) (d : PyData) : Prop := ∀ (H : Hp) (Q : VK), Same H0 H → (∀ v H', Same H H' → Dp K H' v d → Q v H') → t σ H Q
def MkA (K : PySem.W.Frag) (σ : L2.St) (H0 : Hp) (t : TA) (ds : List PyData) : Prop := ∀ (H : Hp) (Q : List V → Hp → Prop), Same H0 H → (∀ vs H', Same H H' → DpAll K H' vs ds → Q vs H') → t σ H Q
theorem mk_int {i : Int} : MkE K σ H0 (tC (.int i)) (.int i) := fun H Q _ q => q _ H (Same.refl H) (.int i)
theorem mk_str {z : Str} : MkE K σ H0 (tC (.str z)) (.str z) := fun H Q _ q => q _ H (Same.refl H) (.str z)
theorem mk_non : MkE K σ H0 (tC .non) .none := fun H Q _ q => q _ H (Same.refl H) .non
theorem mk_bl {b : Bool} : MkE K σ H0 (tC (.bl b)) (.bool b) := fun H Q _ q => q _ H (Same.refl H) (.bl b)
theorem mk_var {i : Nat} {v : V} {d : PyData} (h : σ[i]? = some (some v)) (hd : Dp K H0 v d) : MkE K σ H0 (tVar i) d := fun H Q s q => ⟨v, h, q _ H (Same.refl H) (s.dp hd)⟩
theorem mk_nil : MkA K σ H0 tNil [] := fun H Q _ q => q [] H (Same.refl H) .nil
theorem mk_cons {t : TE} {ta : TA} {d : PyData} {ds : List PyData} (h : MkE K σ H0 t d) (ha : MkA K σ H0 ta ds) : MkA K σ H0 (tCons t ta) (d :: ds) := fun H Q s q =>
  h H _ s fun v H1 s1 hv => ha H1 _ (s.trans s1) fun vs H2 s2 hvs => q (v :: vs) H2 (s1.trans s2) (.cons (s2.dp hv) hvs)
theorem mk_tup {ta : TA} {ds : List PyData} (h : MkA K σ H0 ta ds) (hz : ds.length ≤ 1000 := by simp) : MkE K σ H0 (tTup ta) (.tuple ds) := fun H Q s q =>
  h H _ s fun vs H1 s1 hvs => ⟨by rw [HX.dpAll_len hvs]; exact Nat.le_of_lt (small1000 hz), fun p np => q (.ref p) _ (s1.trans (same_upd np)) (.tup (stt upd_same) ((same_upd np).dpAll hvs))⟩
theorem mk_of {t : TE} {d : PyData} (h : ∀ (H : Hp) (Q : VK), Same H0 H → (∀ v H', Same H H' → Dp K H' v d → Q v H') → t σ H Q) : MkE K σ H0 t d := h
/-! ### where a statement's value is a display -/
theorem seq_set {t : TE} {g : TG} {u : TS} {D : Ends} {σ : L2.St} {H : Hp} (h : t σ H fun v H1 => g v σ H1 (u D)) : tSeq (tAsg t g) u D σ H := h
theorem nm_ {i : Nat} {v : V} {σ : L2.St} {H : Hp} {nx : L2.St → Hp → Prop} {rt : VK} {bk ct : L2.St → Hp → Prop} (h : nx (σ.set i (some v)) H) : gName i v σ H (Ends.mk nx rt bk ct).nx := h
theorem nx_ {σ : L2.St} {H : Hp} {nx : L2.St → Hp → Prop} {rt : VK} {bk ct : L2.St → Hp → Prop} (h : nx σ H) : (Ends.mk nx rt bk ct).nx σ H := h
theorem nm1 {i : Nat} {v : V} {σ : L2.St} {H : Hp} {Q : L2.St → Hp → Prop} (h : Q (σ.set i (some v)) H) : gName i v σ H Q := h
/-- behind a name's store: the next statement sets a name too -/
theorem nm_set {i : Nat} {v : V} {σ : L2.St} {H : Hp} {t : TE} {g : TG} {u : TS} {D : Ends} {rt : VK} {bk ct : L2.St → Hp → Prop} (h : t (σ.set i (some v)) H fun y H1 => g y (σ.set i (some v)) H1 (u D)) : gName i v σ H (Ends.mk (tSeq (tAsg t g) u D) rt bk ct).nx := h
theorem one_set {t : TE} {g : TG} {D : Ends} {σ : L2.St} {H : Hp} (h : t σ H fun v H1 => g v σ H1 D.nx) : tAsg t g D σ H := h
theorem one_ret {t : TE} {D : Ends} {σ : L2.St} {H : Hp} (h : t σ H D.rt) : tRet t D σ H := h
theorem op_ {r : R2} {ta tb : TE} {σ : L2.St} {H : Hp} {Q : VK} (h : ta σ H fun x H1 => tb σ H1 fun y H2 => r x y H2 Q) : tOp r ta tb σ H Q := h
theorem cons_ {t : TE} {ta : TA} {σ : L2.St} {H : Hp} {Q : List V → Hp → Prop} (h : t σ H fun x H1 => ta σ H1 fun xs H2 => Q (x :: xs) H2) : tCons t ta σ H Q := h
theorem run_tup {H : Hp} {Q : VK} {ta : TA} {ds : List PyData} (h : MkA K σ H ta ds) (q : ∀ p H', H p = none → Same H H' → Dp K H' (.ref p) (.tuple ds) → Q (.ref p) H') (hz : ds.length ≤ 1000 := by simp) : tTup ta σ H Q :=
  h H _ (Same.refl H) fun vs H1 s1 hvs => ⟨by rw [HX.dpAll_len hvs]; exact Nat.le_of_lt (small1000 hz), fun p np => q p _ (s1.free np) (s1.trans (same_upd np)) (.tup (stt upd_same) ((same_upd np).dpAll hvs))⟩
theorem run_lst {H : Hp} {Q : VK} {ta : TA} {ds : List PyData} (h : MkA K σ H ta ds) (q : ∀ p H' vs, H p = none → Same H H' → H' p = some (.lst vs) → DpAll K H' vs ds → Q (.ref p) H') (hz : ds.length ≤ 1000 := by simp) : tLst ta σ H Q :=
  h H _ (Same.refl H) fun vs H1 s1 hvs => ⟨by rw [HX.dpAll_len hvs]; exact Nat.le_of_lt (small1000 hz), fun p np => q p _ vs (s1.free np) (s1.trans (same_upd np)) upd_same ((same_upd np).dpAll hvs)⟩
theorem dpAll_app {H : Hp} : ∀ {xs ys : List V} {ds es : List PyData}, DpAll K H xs ds → DpAll K H ys es → DpAll K H (xs ++ ys) (ds ++ es)
  | _, _, _, _, .nil, k => k
  | _, _, _, _, .cons h t, k => .cons h (dpAll_app t k)
/-- the comprehension has no test -/
theorem yes_ {σ : L2.St} {H : Hp} {A B : Hp → Prop} (h : A H) : tYes σ H (fun b H1 => if b = true then A H1 else B H1) := by
  show if true = true then A H else B H
  rw [if_pos rfl]
  exact h
/-! ### data of tuples alone -/
mutual
def tupD : PyData → Bool
  | .list _ => false
  | .dict _ => false
  | .tuple xs => tupAll xs
  | _ => true
def tupAll : List PyData → Bool
  | [] => true
  | x :: xs => tupD x && tupAll xs
end
mutual
theorem dp_keep {H H' : Hp} (k : ∀ (a : Addr) (xs : List V), SqT K H a xs → SqT K H' a xs) : ∀ {v : V} {x : PyData}, tupD x = true → Dp K H v x → Dp K H' v x
  | _, _, _, .non => .non
  | _, _, _, .bl b => .bl b
  | _, _, _, .int i => .int i
  | _, _, _, .str x => .str x
  | _, _, t, .lst h j => by cases t
  | _, _, t, .tup h j => .tup (k _ _ h) (dpAll_keep k t j)
theorem dpAll_keep {H H' : Hp} (k : ∀ (a : Addr) (xs : List V), SqT K H a xs → SqT K H' a xs) : ∀ {vs : List V} {xs : List PyData}, tupAll xs = true → DpAll K H vs xs → DpAll K H' vs xs
  | _, _, _, .nil => .nil
  | _, _, t, .cons h j => by
    simp only [tupAll, Bool.and_eq_true] at t
    exact .cons (dp_keep k t.1 h) (dpAll_keep k t.2 j)
end
theorem sqt_setl {H : Hp} {t l : Addr} {xs ys zs : List V} (e : H l = some (.lst ys)) (h : SqT K H t xs) : SqT K (upd H l (.lst zs)) t xs := by
  rcases h with (h | ⟨o, h⟩) | h
  · exact .inl (.inl (by rw [upd_ne (fun q => by subst q; rw [e] at h; cases h)]; exact h))
  · exact .inl (.inr ⟨o, by rw [upd_ne (fun q => by subst q; rw [e] at h; cases h)]; exact h⟩)
  · exact .inr h
theorem sqt_setk {H : Hp} {t l : Addr} {xs : List V} {kvs : List (Key × V)} {o : HO} (e : H l = some (.dK kvs)) (h : SqT K H t xs) : SqT K (upd H l o) t xs := by
  rcases h with (h | ⟨o, h⟩) | h
  · exact .inl (.inl (by rw [upd_ne (fun q => by subst q; rw [e] at h; cases h)]; exact h))
  · exact .inl (.inr ⟨o, by rw [upd_ne (fun q => by subst q; rw [e] at h; cases h)]; exact h⟩)
  · exact .inr h
theorem tupAll_app : ∀ {xs ys : List PyData}, tupAll xs = true → tupAll ys = true → tupAll (xs ++ ys) = true
  | [], _, _, h => h
  | x :: xs, ys, h, k => by
    simp only [List.cons_append, tupAll, Bool.and_eq_true] at h ⊢
    exact ⟨h.1, tupAll_app h.2 k⟩
/-- t + u, tuples of data -/
theorem cat_dp {H : Hp} {Q : VK} {a b : Addr} {ds es : List PyData} (h1 : Dp K H (.ref a) (.tuple ds)) (h2 : Dp K H (.ref b) (.tuple es)) (l : ds.length + es.length ≤ sizeLine) (q : ∀ t H', Same H H' → Dp K H' (.ref t) (.tuple (ds ++ es)) → Q (.ref t) H') : HT2.rCatA K (.ref a) (.ref b) H Q := by
  cases h1 with
  | tup h1 k1 =>
    cases h2 with
    | tup h2 k2 =>
      refine ⟨a, b, _, _, rfl, rfl, h1, h2, by rw [HX.dpAll_len k1, HX.dpAll_len k2]; exact l, fun e => ?_, fun _ e => ?_, fun _ _ p np => ?_⟩
      · subst e
        cases k1
        exact q b H (Same.refl H) (.tup h2 k2)
      · subst e
        cases k2
        rw [List.append_nil] at q
        exact q a H (Same.refl H) (.tup h1 k1)
      · exact q p _ (same_upd np) (.tup (stt upd_same) ((same_upd np).dpAll (dpAll_app k1 k2)))
theorem dp_at' {H : Hp} : ∀ {xs : List V} {ds : List PyData}, DpAll K H xs ds → ∀ {i : Nat} {d : PyData}, ds[i]? = some d → ∃ v, xs[i]? = some v ∧ Dp K H v d
  | _, _, .cons h _, 0, _, e => ⟨_, rfl, by cases e; exact h⟩
  | _, _, .cons _ t, i + 1, _, e => dp_at' t (by simpa using e)
  | _, _, .nil, i, _, e => by simp at e
theorem seq_ {t u : TS} {D : Ends} {σ : L2.St} {H : Hp} (h : t { D with nx := u D } σ H) : tSeq t u D σ H := h
/-- for .. in [a display] -/
theorem for_lst {H : Hp} {ta : TA} {ds : List PyData} {g : TG} {tb : TS} {D : Ends} (h : MkA K σ H ta ds) (q : ∀ (a : Addr) (H1 : Hp) (vs : List V), H a = none → Same H H1 → H1 a = some (.lst vs) → DpAll K H1 vs ds →
    ∃ Pv : Nat → L2.St → Hp → Prop, Pv 0 σ H1 ∧ (∀ i σ' H', Pv i σ' H' → SqL K H' a vs) ∧ (∀ i x d σ' H', vs[i]? = some x → ds[i]? = some d → Dp K H1 x d → Pv i σ' H' → g x σ' H' fun σ2 H2 => tb { D with nx := Pv (i + 1), ct := Pv (i + 1), bk := D.nx } σ2 H2) ∧ ∀ σ' H', Pv vs.length σ' H' → D.nx σ' H')
    (hz : ds.length ≤ 1000 := by simp) : tFor (iList K (tLst ta)) g tb D σ H := by
  unfold tFor iList
  refine run_lst h (fun p H1 vs n s l dv => ?_) hz
  obtain ⟨Pv, h0, hl, hs, hd⟩ := q p H1 vs n s l dv
  refine ⟨p, rfl, ⟨_, sl l⟩, for_list (xs := vs) Pv h0 (fun i σ' H' _ hp => hl i σ' H' hp) (fun i x σ' H' hx hp => ?_) hd⟩
  have hi : i < ds.length := by
    have := (List.getElem?_eq_some_iff.mp hx).1
    rw [← HX.dpAll_len dv]
    exact this
  obtain ⟨x', e1, e2⟩ := dp_at' dv (List.getElem?_eq_getElem hi)
  rw [hx] at e1
  cases e1
  exact hs i x _ σ' H' hx (List.getElem?_eq_getElem hi) e2 hp
/-- an item of a list of data -/
theorem dp_at {H : Hp} : ∀ {xs : List V} {ds : List PyData}, DpAll K H xs ds → ∀ {i : Nat} {d : PyData}, ds[i]? = some d → ∃ v, xs[i]? = some v ∧ Dp K H v d
  | _, _, .cons h _, 0, _, e => ⟨_, rfl, by cases e; exact h⟩
  | _, _, .cons _ t, i + 1, _, e => dp_at t (by simpa using e)
  | _, _, .nil, i, _, e => by simp at e
end
/-! ### repr of any data -/
def rReprA (K : PySem.W.Frag) : List V → Hp → VK → Prop := fun vs H Q => ∃ (x : V) (d : PyData), vs = [x] ∧ Dp K H x d ∧ d.showable = true ∧ d.hasDict = false ∧ d.depth ≤ 60 ∧ d.shown.length ≤ sizeLine ∧ Q (.str d.shown) H
theorem call_reprA {X : Cx} (sh : HG.Shut X.A) (hu : X.A.units + 64 < cLine) : CallR X (.builtin "repr") (rReprA X.K) := by
  intro pins s σ H vs us Q I r h
  obtain ⟨x, d, rfl, hd, sw, nd, dep, len, q⟩ := h
  have hd0 := hd
  cases hd with
  | non =>
    obtain ⟨u, rfl, rx⟩ := vals1 r
    obtain rfl : u = Value.none := rx
    exact PySem.P.repr_of_none ⟨.str "None", H, I.tok _, ⟨_, rfl⟩, by rw [PyData.shown_none] at q; exact q⟩
  | bl b =>
    obtain ⟨u, rfl, rx⟩ := vals1 r
    obtain rfl : u = Value.bool b := rx
    exact PySem.P.repr_of_bool ⟨.str _, H, I.tok _, ⟨_, rfl⟩, by rw [PyData.shown_bool] at q; exact q⟩
  | int i =>
    obtain ⟨u, rfl, t, rfl⟩ := vals1 r
    have hz : i.natAbs.log2 < 1920 := of_decide_eq_true sw
    exact PySem.P.repr_of_int hz ⟨.str _, H, I.tok _, ⟨_, rfl⟩, by rw [PyData.shown_int] at q; exact q⟩
  | str z =>
    obtain ⟨u, rfl, t, rfl⟩ := vals1 r
    exact PySem.P.repr_of_str ⟨.str _, H, I.tok _, ⟨_, rfl⟩, by rw [PyData.shown_str] at q; exact q⟩ (by rw [PyData.shown_str] at len; exact len)
  | lst h1 h2 => exact HG.call_reprD sh hu pins s σ H _ us Q I r ⟨_, _, rfl, hd0, rfl, sw, nd, dep, len, q⟩
  | tup h1 h2 => exact HG.call_reprD sh hu pins s σ H _ us Q I r ⟨_, _, rfl, hd0, rfl, sw, nd, dep, len, q⟩
end HK
/-! dicts of unlike sizes compared; list(x) of a dict or a list; all but some objects stand -/
namespace HN
open PySem PySem.Spec PySem.Calls PyProof.Rows L2 HB
section
variable {X : Cx}
/-- d == e, d != e: alike by every key, or of unlike sizes -/
def rDB (r : Bool) : R2 := fun x y H Q => ∃ a b ks ls, x = .ref a ∧ y = .ref b ∧ H a = some (.dK ks) ∧ H b = some (.dK ls) ∧
  ((ks.length = ls.length ∧ (∀ p ∈ ks, valV ls p.1 = some p.2 ∧ flatB p.2 = true) ∧ Q (.bl r) H) ∨ (ks.length ≠ ls.length ∧ Q (.bl (!r)) H))
theorem op_eq_dictB (hu : X.A.units < cLine) : OpR X (compareOp .Eq) (rDB true) := by
  intro pins s σ H x y v u Q I rx ry h
  obtain ⟨a, b, ks, ls, rfl, rfl, ea, eb, h⟩ := h
  rcases h with ⟨hl, hp, q⟩ | ⟨hl, q⟩
  · exact op_eq_dictA hu pins s σ H _ _ v u Q I rx ry ⟨a, b, ks, ls, rfl, rfl, ea, eb, hl, hp, q⟩
  · obtain rfl : v = Value.ref a := rx
    obtain rfl : u = Value.ref b := ry
    obtain ⟨_, ya, va, ra, da⟩ := (show ObjOk X.prog X.w H s.heap a (.dK ks) from I.hok a _ ea)
    obtain ⟨_, yb, vb, rb, db⟩ := (show ObjOk X.prog X.w H s.heap b (.dK ls) from I.hok b _ eb)
    have hn : va.length ≠ vb.length := by rw [← ra.length, ← rb.length]; exact hl
    exact PySem.W.keq_eq (knd := mixKind X.prog X.w) (r := true) ya yb da db hu (fun e => absurd e hn) (fin_bl I q (by simp [hn]))
theorem op_ne_dictB (hu : X.A.units < cLine) : OpR X (compareOp .NotEq) (rDB false) := by
  intro pins s σ H x y v u Q I rx ry h
  obtain ⟨a, b, ks, ls, rfl, rfl, ea, eb, h⟩ := h
  rcases h with ⟨hl, hp, q⟩ | ⟨hl, q⟩
  · exact op_ne_dictA hu pins s σ H _ _ v u Q I rx ry ⟨a, b, ks, ls, rfl, rfl, ea, eb, hl, hp, q⟩
  · obtain rfl : v = Value.ref a := rx
    obtain rfl : u = Value.ref b := ry
    obtain ⟨_, ya, va, ra, da⟩ := (show ObjOk X.prog X.w H s.heap a (.dK ks) from I.hok a _ ea)
    obtain ⟨_, yb, vb, rb, db⟩ := (show ObjOk X.prog X.w H s.heap b (.dK ls) from I.hok b _ eb)
    have hn : va.length ≠ vb.length := by rw [← ra.length, ← rb.length]; exact hl
    exact PySem.W.keq_ne (knd := mixKind X.prog X.w) (r := true) ya yb da db hu (fun e => absurd e hn) (fin_bl I q (by simp [hn]))
/-- list(x) of a list, a tuple, a dict -/
def rListAny (K : PySem.W.Frag) : List V → Hp → VK → Prop := fun xs H Q => (∃ p ys, xs = [.ref p] ∧ (SqL K H p ys ∨ SqT K H p ys) ∧ ∀ l, H l = none → Q (.ref l) (upd H l (.lst ys))) ∨
  ∃ (a : Addr) (kvs : List (Key × V)), xs = [.ref a] ∧ Rd H a (.dK kvs) ∧ ∀ p, H p = none → Q (.ref p) (upd H p (.lst (kvs.map fun kv => kV kv.1)))
theorem call_listAny (hc : X.calm = true) : CallR X (.type "list") (rListAny X.K) := by
  intro pins s σ H xs us Q I r h
  rcases h with h | h
  · exact call_list_of pins s σ H xs us Q I r h
  · exact call_listD hc pins s σ H xs us Q I r h
end
/-! ### all but these stand -/
def But (S : List Addr) (H H' : Hp) : Prop := ∀ b o, H b = some o → b ∉ S → H' b = some o
section
variable {S S' : List Addr} {K : PySem.W.Frag} {H H' H'' : Hp}
theorem But.refl (H : Hp) : But S H H := fun _ _ h _ => h
theorem But.trans (a : But S H H') (b : But S H' H'') : But S H H'' := fun x o h h1 => b x o (a x o h h1) h1
theorem But.of (s : Same H H') : But S H H' := fun b o h _ => s b o h
theorem But.mono (a : But S H H') (h : ∀ x ∈ S, x ∈ S') : But S' H H' := fun x o e n => a x o e fun m => n (h x m)
theorem But.set (a : But S H H') {p : Addr} {o : HO} (h : p ∈ S) : But S H (upd H' p o) := fun x y e n => by
  rw [upd_ne (fun q => by subst q; exact n h)]
  exact a x y e n
theorem But.own (a : But S H H') {p : Addr} {o : HO} (n : H p = none) : But S H (upd H' p o) := fun x y e m => by
  rw [upd_ne (ne_of_none e n)]
  exact a x y e m
/-- tuples stand, where the others are none -/
theorem But.sqt (u : But S H H') (hS : ∀ x ∈ S, ∃ o, H x = some o ∧ (∀ xs, o ≠ .tup xs) ∧ ∀ ob ys, o ≠ .frz ob ys) {a : Addr} {xs : List V} (h : SqT K H a xs) : SqT K H' a xs := by
  rcases h with (h | ⟨o, h⟩) | h
  · refine .inl (.inl (u _ _ h fun m => ?_))
    obtain ⟨o, e, n1, _⟩ := hS _ m
    rw [h] at e
    exact n1 _ (Option.some.inj e).symm
  · refine .inl (.inr ⟨o, u _ _ h fun m => ?_⟩)
    obtain ⟨o2, e, _, n2⟩ := hS _ m
    rw [h] at e
    exact n2 _ _ (Option.some.inj e).symm
  · exact .inr h
end
end HN
/-! str(x): of a number or a text, and of an instance whose class has its own __str__ -/
namespace HJ
open PySem
section
open Sem (wp)
open Builtin Builtin.Str
variable {prog : Program} {w : World} {A : Around} {E : Value → Shared → Prop} {s : Shared}
theorem callType_in {T newId initId : String} {Bn Bi : Builtin} {args : List Value} {S : Spec} {Q Q₁ : Value → Shared → Prop} (ft : TypeCalled T newId initId)
    (hct : checkTypeCall T ⟨args, []⟩ = pure ()) (hcn : checkBuiltinCall newId ⟨.type T :: args, []⟩ = pure ())
    (entryN : entryFor table newId = some Bn) (entryI : entryFor table initId = some Bi) (g : MeetsIn prog w (Bn ⟨.type T :: args, []⟩) S)
    (h : S A.in1 (wants Q₁ E) s)
    (hnext : ∀ obj s₁, Q₁ obj s₁ → s₁.TypeIs obj T ∧ argsOk initId ⟨obj :: args, []⟩ ∧ ∃ Si, Meets (Bi ⟨obj :: args, []⟩) Si ∧ Si A.in1 (wants (fun r s₂ => r = .none ∧ Q obj s₂) E) s₁) :
    wpAny (model prog w) A (call (.type T) args) Q E s := by
  obtain ⟨c, tl, hmro⟩ := ft.mro
  have hmade := ft.made
  have hsub := ft.sub
  refine wpAny_call (codeAny_of_tree ?_)
  show wpAny _ _ (callAny (.type T) _) _ _ _
  refine wpAny_pure ⟨Code.quiet_builtin _ (by decide +kernel), codeAny_builtin F.entry_type_call ?_⟩
  rw [Around.under_plain (weight_type_call_type T args []) (units_type_call_type T args [])]
  have h1 := ft.notType
  have h2 := ft.canCreate
  repeat (any_goals (first | assumption | wp_step))
  refine codeAny_mono (codeAny_call_builtin ft.plain entryN (wpAny_of_eq hcn (g A.in1 _ s h))) fun r s₁ hr => ?_
  cases r with
  | error e => exact hr
  | ok fl =>
    cases fl with
    | ret obj =>
      obtain ⟨hT, hok, Si, gi, hsi⟩ := hnext _ _ hr
      have hli := ft.init.lookup
      have hbi := ft.init.bind obj
      repeat (any_goals (first | assumption | wp_step))
      refine codeAny_mono (codeAny_call_builtin ft.init.plain entryI (ft.init.check _ _ _ _ _ _ _ _ hT hok (gi prog w A.in1 _ s₁ hsi))) fun r₂ s₂ hr₂ => ?_
      cases r₂ with
      | error e => exact hr₂
      | ok fl₂ =>
        cases fl₂ with
        | ret r =>
          obtain ⟨rfl, hq⟩ := hr₂
          repeat (any_goals (first | assumption | wp_step))
        | _ => exact hr₂.elim
    | _ => exact hr.elim
theorem str_new_in {v : Value} {S : PySem.Spec} (hs : ∀ (A : Around) (R : Result → Shared → Prop) (s : Shared), S A R s →
      wpAny (model prog w) A.in1 (strOf v) (fun r s' => R (.ok (.ret r)) s') (fun e s' => R (.error e) s') s) : MeetsIn prog w («str.__new__» ⟨[.type "str", v], []⟩) S := by
  refine MeetsIn.of_wp fun A R s h => ?_
  rw [str_new_tree v]
  refine wpAny_bind (wpAny_pure ?_)
  refine wpAny_bind (wpAny_of_eq isSubtype_str_str ?_)
  exact wpAny_bind (wpAny_mono (hs A R s h) (fun r s' h' => wpAny_pure ⟨_, rfl, h'⟩) fun _ _ e => e)
theorem str_own {a : Addr} {Q : Value → Shared → Prop} (hu : A.units + 64 < cLine)
    (h : wpAny (model prog w) A.in1.in1 (callSpecial? (.ref a) "__str__") (fun r s' => ∃ z t, r = some (.str z t) ∧ Q (.str z t) s') E s) :
    wpAny (model prog w) A (call (.type "str") [.ref a]) Q E s :=
  callType_in (S := fun A' R s' => A' = A.in1 ∧ s' = s ∧ R = wants (fun obj s₁ => s₁.TypeIs obj "str" ∧ Q obj s₁) E) F.called_str (F.typeCall_str_1 _) (F.newCall_str_1 _) F.entry_str_new F.entry_object_init
    (str_new_in fun A' R s' hq => by
      obtain ⟨rfl, rfl, rfl⟩ := hq
      unfold strOf
      rw [show isExactStr (.ref a) = false from rfl]
      simp only [Bool.false_eq_true, if_false, pure_bind]
      refine wpAny_bind (wpAny_cRoomFor (by show A.units + 1 + 1 < cLine; omega) ?_)
      refine wpAny_bind (m := callSpecial? (.ref a) (Str.ofString "__str__")) (wpAny_mono h (fun r s2 hr => ?_) fun _ _ e => e)
      obtain ⟨z, t, rfl, hq⟩ := hr
      repeat (any_goals (first | assumption | wp_step))
      exact ⟨typeIs_str _ _ _, hq⟩)
    ⟨rfl, rfl, rfl⟩ (fun obj _ hq => ⟨hq.1, F.args_object_init_2 obj _, _, object_init_meets F.called_str.init.lookup F.called_str.made (by decide), hq.1, rfl, hq.2⟩)
end
section
open PySem.Spec PyProof.Rows L2
variable {X : Cx} {CX : CXT} {k : Nat} {f C : Addr} {fd : FuncData} {ps : List Str} {sp : Sp} {E : XK}
/-- str(x) of a number or a text -/
def rStrIS : List V → Hp → VK → Prop := fun xs H Q => (∃ i : Int, xs = [.int i] ∧ i.natAbs.log2 < 1920 ∧ Q (.str (toString i)) H) ∨ ∃ a : Str, xs = [.str a] ∧ Q (.str a) H
theorem call_strIS : CallR X (.type "str") rStrIS := by
  intro pins s σ H xs us Q I r h
  rcases h with h | h
  · exact call_str_int pins s σ H xs us Q I r h
  · exact SkE.call_str_str pins s σ H xs us Q I r h
/-- str(x) of an instance whose class says how -/
def rStrO (C : Addr) (sp : Sp) (E : XK) : List V → Hp → VK → Prop := fun xs H Q => ∃ (a dx : Addr) (fs : List (Str × V)), xs = [.ref a] ∧ H a = some (.ins C dx fs) ∧ sp [.ref a] H (fun v H' => ∃ z : Str, v = .str z ∧ Q v H') E
theorem call_strO (hm : Meth X.K C "__str__" f) (F : FnOk X.prog X.w X.K X.mg X.base CX k f fd ps sp) (hr : Room (k + 2) X.A) (hb : Binds X.K fd ps []) (hx : Passes CX X E) : CallR X (.type "str") (rStrO C sp E) := by
  intro pins s σ H xs us Q I r h
  obtain ⟨a, dx, fs, rfl, e, q⟩ := h
  obtain ⟨u, rfl, ru⟩ := vals1 r
  obtain rfl : u = Value.ref a := ru
  refine str_own hr.units ?_
  obtain ⟨mA, O, _⟩ := ins_get I.hok e
  obtain ⟨od, J, _⟩ := O.look
  refine PySem.W.special_fn I.kIn J hm.at_ (beq_iff_eq.mp hm.fn) ?_
  have hl : ([Value.ref a] ++ []).length = ps.length := by
    have := F.len _ _ _ _ q
    exact this
  refine wpAny_call (codeAny_mono (F.run X.A.in1.in1 X.stack s H ⟨[.ref a], []⟩ [.ref a] [.ref a] _ E hr.in1.in1 I.env0.in1.in1 (hb s [.ref a] I.kIn hl) (.cons rfl .nil) q) fun r s' hq => ?_)
  cases r with
  | error e => exact hx pins σ H s e s' I hq
  | ok fl =>
    cases fl with
    | ret u =>
      obtain ⟨v, H', I3, rv, z, ev, q3⟩ := I.after hq
      subst ev
      obtain ⟨t, rfl⟩ := rv
      exact ⟨z, t, rfl, .str z, H', I3, ⟨t, rfl⟩, q3⟩
    | next => exact False.elim hq
    | brk => exact False.elim hq
    | cont => exact False.elim hq
end
end HJ
/-! zip of a text and a tuple -/
namespace HE
open PySem PySem.Spec PySem.Calls PyProof.Rows L2 RZ
open Sem (wp)
/-- the signs of x and a tuple at b, as they stand at each turn -/
def ItzST (K : PySem.W.Frag) (x : Str) (b : Addr) : It :=
  ⟨fun i H => ∃ (ys : List V) (y : V), SqT K H b ys ∧ i < x.cps.size ∧ ys[i]? = some y,
    fun i H v H' => ∃ (T : Addr) (c : Nat) (y : V), v = .ref T ∧ H T = none ∧ H' = upd H T (.tup [.str ⟨#[c]⟩, y]) ∧ x.cps[i]? = some c ∧ ∀ ys, SqT K H b ys → ys[i]? = some y,
    fun i H => ∃ ys : List V, SqT K H b ys ∧ i ≤ x.cps.size ∧ i ≤ ys.length ∧ (x.cps.size ≤ i ∨ ys.length ≤ i)⟩
def ZStS (z TI TO i1 i2 : Addr) (x : Str) (t : Tok) (b : Addr) (i : Nat) (h : Heap) : Prop := IsZip h z TI TO .none ∧ IsTupOf2 h TI (.ref i1) (.ref i2) ∧ (∃ x y, IsTupOf2 h TO x y) ∧ h.IsStrIter i1 (strIterType x) x t i ∧ h.IsTupleIter i2 b i
theorem strIter_at {h h' : Heap} {it : Addr} {ty : String} {x : Str} {t : Tok} {i : Nat} (s : h.IsStrIter it ty x t i) (k : ∀ o, h.get? it = some o → h'.get? it = some o) : h'.IsStrIter it ty x t i := let ⟨o, ho, r⟩ := s; ⟨o, k o ho, r⟩
theorem ZStS.live {z TI TO i1 i2 b : Addr} {x : Str} {t : Tok} {i : Nat} {h : Heap} (st : ZStS z TI TO i1 i2 x t b i h) {c : Addr} (hc : c ∈ [z, TI, TO, i1, i2]) : ∃ o, h.get? c = some o ∧ ∀ v, o.data ≠ .cell v := by
  obtain ⟨h1, h2, ⟨x, y, h3⟩, ⟨p, e4, _, d4⟩, ⟨q, e5, _, d5⟩⟩ := st
  rcases mem5 hc with e | e | e | e | e <;> subst e
  · exact ⟨_, h1, fun v q => nomatch q⟩
  · exact ⟨_, h2, fun v q => nomatch q⟩
  · exact ⟨_, h3, fun v q => nomatch q⟩
  · exact ⟨p, e4, fun v q => by rw [d4] at q; cases q⟩
  · exact ⟨q, e5, fun v z => by rw [d5] at z; cases z⟩
theorem sep_ofS {n b : Addr} (hb : b < n) : ZipSep2 (n + 4) (n + 2) (n + 3) n (n + 1) [n] [n + 1, b] := by
  have e : ∀ k j : Nat, k ≠ j → n + k ≠ n + j := fun k j h z => h (Nat.add_left_cancel z)
  have ne : ∀ {c : Addr} (k : Nat), c < n → n + k ≠ c := fun k h z => Nat.lt_irrefl n (Nat.lt_of_le_of_lt (Nat.le_add_right n k) (z ▸ h))
  constructor
  · exact e 2 4 (by decide)
  · exact e 3 4 (by decide)
  · exact e 2 3 (by decide)
  · exact e 2 0 (by decide)
  · simp
  · simp only [List.mem_cons, List.not_mem_nil, or_false, not_or]; exact e 4 0 (by decide)
  · simp only [List.mem_cons, List.not_mem_nil, or_false, not_or]; exact e 3 0 (by decide)
  · exact e 2 1 (by decide)
  · simp
  · simp only [List.mem_cons, List.not_mem_nil, or_false, not_or]; exact ⟨e 4 1 (by decide), ne 4 hb⟩
  · simp only [List.mem_cons, List.not_mem_nil, or_false, not_or]; exact ⟨e 3 1 (by decide), ne 3 hb⟩
  · simp only [List.mem_cons, List.not_mem_nil, or_false, not_or]; exact ⟨e 0 1 (by decide), ne 0 hb⟩
  · simp only [List.mem_cons, List.not_mem_nil, or_false, not_or]; exact e 1 0 (by decide)
theorem turn_zipST {P : Program} {w : World} {K : PySem.W.Frag} {elts : List Expr} {kk : Nat} {tpos : Pos} {x : Str} {t : Tok} {b z TI TO i1 i2 : Addr} (D : ZipSep2 z TI TO i1 i2 [i1] [i2, b]) (hbi : b ≠ i2) (hz1 : i1 ≠ z) (hz2 : i2 ≠ z) :
    Turn P w K (.Tuple elts kk tpos) (ItzST K x b) [z, TI, TO, i1, i2] z (ZStS z TI TO i1 i2 x t b) where
  mem := by simp
  obj := fun i h st c hc => st.live hc
  keep := fun i h h' st k => by
    obtain ⟨h1, h2, ⟨x, y, h3⟩, h4, h5⟩ := st
    exact ⟨k z (by simp) _ h1, k TI (by simp) _ h2, ⟨x, y, k TO (by simp) _ h3⟩, strIter_at h4 fun o q => k i1 (by simp) o q, h5.at fun o q => k i2 (by simp) o q⟩
  item := by
    intro X hP hw hK hc i pins s σ H E I hf st hg
    subst hP hw hK
    obtain ⟨g1, g2, ⟨x0, y0, g3⟩, g4, g5⟩ := id st
    obtain ⟨ys, y, hqy, hx, hy⟩ := hg
    obtain ⟨its2, rv2, p2, _⟩ := I.tuple hqy
    obtain ⟨u2, hu2, ru2⟩ := rv2.get hy
    have ht : s.heap.IsTuple b its2.toArray := p2
    have lt2 : i < its2.toArray.size := by have := (List.getElem?_eq_some_iff.mp hu2).1; simpa using this
    have zl : z < s.heap.objs.size := Heap.lt_size g1
    refine wpAny_pyNext_zipD2_item D (PySem.Draws.text (A := X.A.in1) (I.ok.hd hc) i1 x t) (PySem.Draws.tuple (A := X.A.in1) (I.ok.hd hc) i2 b hbi its2.toArray) g1 g2 g3 g4 ⟨g5, ht⟩ hx lt2
      fun v1 v2 h' tk e1 e2 z' t' s1 s2 hT hsz hk => ?_
    obtain ⟨c, uc, hcc, rfl⟩ := e1
    have ev2 : v2 = u2 := by
      have h1 : its2.toArray[i]? = some u2 := by simpa using hu2
      rw [e2] at h1
      exact Option.some.inj h1
    subst ev2
    refine ⟨_, rfl, wpAny_letOwnedTupleGo_zip (s := { s with heap := h', toks := tk }) z' fun h2 z2 sb => ?_⟩
    have nz : s.heap.objs.size ≠ z := Nat.ne_of_gt zl
    have hT2 : h2.get? s.heap.objs.size = some { cls := .type "tuple", data := .seq #[.str ⟨#[c]⟩ uc, v2] } := (sb.2 _ nz).trans hT
    have old : ∀ c o, c ∉ [z, TI, TO, i1, i2] → s.heap.get? c = some o → h2.get? c = some o := fun c o hm q => by
      simp only [List.mem_cons, List.not_mem_nil, or_false, not_or] at hm
      exact (sb.2 c hm.1).trans (hk c o hm.1 hm.2.2.1 hm.2.2.2.1 hm.2.2.2.2 q)
    have new : ObjOk X.prog X.w (upd H s.heap.objs.size (.tup [.str ⟨#[c]⟩, y])) h2 s.heap.objs.size (.tup [.str ⟨#[c]⟩, y]) :=
      ⟨by show 2 ≤ sizeLine; decide, [.str ⟨#[c]⟩ uc, v2], .cons ⟨uc, rfl⟩ (.cons ru2 .nil), ⟨_, hT2, rfl, _, rfl⟩⟩
    have I1 := I.turnedNew (t' := tk) (ch := [z, TI, TO, i1, i2]) (h' := h2) old hf (Nat.le_refl _) new
    refine ⟨.ref s.heap.objs.size, _, I1, rfl, ⟨_, c, y, rfl, I.hok.fresh (Nat.le_refl _), rfl, hcc, fun l hl => by rw [I.tuple_inj hl hqy]; exact hy⟩,
      ⟨z2, (sb.2 _ D.TIz).trans (hk _ _ D.TIz D.TITO D.TIi1 D.TIi2 g2), ⟨_, v2, (sb.2 _ D.TOz).trans t'⟩, strIter_at s1 fun o q => (sb.2 _ hz1).trans q, s2.1.at fun o q => (sb.2 _ hz2).trans q⟩, fun c hm => ?_⟩
    obtain ⟨o, ho, _⟩ := st.live hm
    rw [upd_ne (Nat.ne_of_lt (Heap.lt_size ho))]
    exact (hf c hm).1
  done := by
    intro X hP hw hK hc i pins s σ H E I hf st hg
    subst hP hw hK
    obtain ⟨g1, g2, ⟨x0, y0, g3⟩, g4, g5⟩ := st
    obtain ⟨ys, hqy, hi1, hi2, hend⟩ := hg
    obtain ⟨its2, rv2, p2, _⟩ := I.tuple hqy
    have ht : s.heap.IsTuple b its2.toArray := p2
    have l2 := rv2.length
    have fin : ∀ (h' : Heap) (tk : Nat), (∀ c o, c ≠ z → c ≠ TO → c ≠ i1 → c ≠ i2 → s.heap.get? c = some o → h'.get? c = some o) → (none : Option Value) = none ∧ Inv X pins σ H { s with heap := h', toks := tk } := fun h' tk hk =>
      ⟨rfl, I.turnedL (t' := tk) (ch := [z, TI, TO, i1, i2]) (fun c o hb q => by
        simp only [List.mem_cons, List.not_mem_nil, or_false, not_or] at hb
        exact hk c o hb.1 hb.2.2.1 hb.2.2.2.1 hb.2.2.2.2 q) hf⟩
    have hh := I.ok.hd hc
    refine wpAny_pyNext_zipD2_end D (PySem.Draws.text (A := X.A.in1) hh i1 x t) (PySem.Draws.tuple (A := X.A.in1) hh i2 b hbi its2.toArray) g1 g2 g3 g4 ⟨g5, ht⟩ hi1 (by simp only [List.size_toArray]; omega) ?_ fin
    rcases hend with h | h
    · exact .inl (by omega)
    · exact .inr (by simp only [List.size_toArray]; omega)
  self := fun A i s Q E st h => wpAny_pyIter_zip st.1 h
def iZipST (K : PySem.W.Frag) (ta : TA) : TI := fun σ H R => ta σ H fun vs H1 => ∃ (x : Str) (b : Addr) (ys : List V), vs = [.str x, .ref b] ∧ SqT K H1 b ys ∧ R (ItzST K x b) H1
theorem pi_zipST {X : Cx} {e e2 : Expr} {ta : TA} {p pos tpos : Pos} {elts : List Expr} {kk : Nat} (hg : Gl X "zip") (hm : X.mg "zip" = none) (ha : PA X [e, e2] ta)
    (hs : starEach [e, e2] X.env = (false, eval e X.env) :: starEach [e2] X.env := by rfl) (hpl : (backTo pos (starEach [e2] X.env)).any (·.1) = false := by rfl) :
    PI X (.Tuple elts kk tpos) (.Call (.Name "zip" p) [e, e2] [] pos) (iZipST X.K ta) := by
  refine ⟨fun pins s σ H R I h => ?_⟩
  refine Call_ (ld_blt I hg hm PyProof.Rows.boot_zip (PyProof.Rows.callWith_type1 (thn (ha.run pos pins s σ H _ I h) fun us s1 ⟨vs, H1, I1, r1, x, b, ys, ex, hqy, q⟩ => ?_) hs hpl))
  subst ex
  obtain ⟨u1, u2, rfl, ra, rb⟩ := vals2 r1
  obtain ⟨t, rfl⟩ := ra
  cases rb
  obtain ⟨its2, rv2, p2, _⟩ := I1.tuple hqy
  have ht : s1.heap.IsTuple b its2.toArray := p2
  have bl : b < s1.heap.objs.size := by obtain ⟨_, e, _⟩ := ht; exact Heap.lt_size e
  refine zip_begins2 (begins_text x t) (begins_tuple b its2.toArray) trivial ht fun h' hz hTI hTO k1 k2 hsz hk => wpAny_pyIter_zip hz ?_
  have I2 : Inv X pins σ H1 { s1 with heap := h' } := I1.kept (t' := s1.toks) hk
  have n1 : ∀ k : Nat, s1.heap.objs.size + (k + 1) ≠ s1.heap.objs.size := fun k z => absurd (Nat.add_left_cancel (show s1.heap.objs.size + (k + 1) = s1.heap.objs.size + 0 from z)) (Nat.succ_ne_zero k)
  have n2 : s1.heap.objs.size + 1 ≠ s1.heap.objs.size + 4 := fun z => absurd (Nat.add_left_cancel z) (by decide)
  refine ⟨s1.heap.objs.size + 4, _, _, _, H1, rfl, I2, turn_zipST (x := x) (t := t) (sep_ofS bl) (Nat.ne_of_lt (Nat.lt_succ_of_lt bl)) (Ne.symm (n1 3)) n2, ⟨hz, hTI, ⟨_, _, hTO⟩, ⟨_, k1, rfl, rfl⟩, ⟨_, k2, rfl, rfl⟩⟩, fun c hm => ?_, q⟩
  have hle : s1.heap.objs.size ≤ c := by
    rcases mem5 hm with e | e | e | e | e <;> rw [e]
    · exact Nat.le_add_right _ _
    · exact Nat.le_add_right _ _
    · exact Nat.le_add_right _ _
    · exact Nat.le_refl _
    · exact Nat.le_add_right _ _
  exact I1.fpOk hle (I1.hok.fresh hle)
theorem walk_zipST {K : PySem.W.Frag} {x : Str} {b : Addr} {ys : List V} {n : Nat} (hn : n = min x.cps.size ys.length) : Walk (ItzST K x b) n (fun H => SqT K H b ys) (YPair (fun i => (x.cps[i]?).map fun c => .str ⟨#[c]⟩) (fun i => ys[i]?)) := by
  subst hn
  refine ⟨fun i H hi q => ?_, fun _ q => ⟨ys, q, by omega, by omega, by omega⟩, fun i H v H' _ q y => ?_⟩
  · have h1 : i < x.cps.size := by omega
    have h2 : i < ys.length := by omega
    exact ⟨ys, ys[i], q, h1, by simp [h2]⟩
  · obtain ⟨T, c, y, e1, e2, e3, e4, e5⟩ := y
    exact ⟨T, .str ⟨#[c]⟩, y, e1, e2, e3, by show (x.cps[i]?).map _ = _; rw [e4]; rfl, e5 ys q⟩
end HE
/-! t[k::2] of a tuple -/
namespace HP
open PySem PySem.Spec PyProof.Rows L2
def ev2 {α : Type} : List α → List α
  | [] => []
  | [x] => [x]
  | x :: _ :: r => x :: ev2 r
theorem pick2 {α : Type} : ∀ (ys : List α), ((List.range ((ys.length + 1) / 2)).filterMap fun j => ys[j * 2]?) = ev2 ys
  | [] => by
    rw [show (([] : List α).length + 1) / 2 = 0 by simp]
    rfl
  | [x] => by
    rw [show ([x].length + 1) / 2 = 1 by simp]
    rfl
  | x :: y :: r => by
    have e : ((x :: y :: r).length + 1) / 2 = (r.length + 1) / 2 + 1 := by rw [List.length_cons, List.length_cons]; omega
    rw [e, List.range_succ_eq_map, List.filterMap_cons, List.filterMap_map]
    show x :: (List.range ((r.length + 1) / 2)).filterMap ((fun j => (x :: y :: r)[j * 2]?) ∘ Nat.succ) = x :: ev2 r
    rw [← pick2 r]
    congr 2
    funext j
    show (x :: y :: r)[(j + 1) * 2]? = r[j * 2]?
    rw [show (j + 1) * 2 = j * 2 + 1 + 1 by omega, List.getElem?_cons_succ, List.getElem?_cons_succ]
theorem ev2_len {α : Type} : ∀ (ys : List α), (ev2 ys).length ≤ ys.length
  | [] => Nat.le_refl _
  | [x] => Nat.le_refl _
  | x :: y :: r => by
    have := ev2_len r
    show (ev2 r).length + 1 ≤ r.length + 1 + 1
    omega
theorem vals_ev2 : ∀ {xs : List V} {us : List Value}, Vals xs us → Vals (ev2 xs) (ev2 us)
  | _, _, .nil => .nil
  | _, _, .cons a .nil => .cons a .nil
  | _, _, .cons a (.cons b t) => .cons a (vals_ev2 t)
section
variable {prog : Program} {w : World} {A : Around} {E : Value → Shared → Prop} {s : Shared}
theorem adjust_two (lo : Option Int) (n : Nat) : Builtin.Slice.sliceAdjust lo none 2 (n : Int) = (((HT.sIx n 0 lo : Nat) : Int), (n : Int)) := by
  have h1 : ¬ ((2 : Int) < 0) := by omega
  unfold Builtin.Slice.sliceAdjust
  simp only [h1, if_false]
  refine Prod.ext ?_ rfl
  cases lo with
  | none => rfl
  | some v => exact HT.clip_eq v n 0
theorem places_two (i n : Nat) (h : i ≤ n) : Builtin.Slice.slicePlaces (i : Int) (n : Int) 2 = (n - i + 1) / 2 := by
  unfold Builtin.Slice.slicePlaces
  have h1 : (2 : Int) > 0 := by omega
  simp only [h1, if_true]
  split <;> omega
theorem sliceApplied_two {sl : Addr} {vl vs : Value} {lo : Option Int} {n : Nat} {Q : Int × Int × Nat → Shared → Prop} (hs : s.heap.IsSliceOf sl vl .none vs) (pl : IsPart vl lo) (ps : IsPart vs (some 2))
    (h : Q (((HT.sIx n 0 lo : Nat) : Int), 2, (n - HT.sIx n 0 lo + 1) / 2) s) : wpAny (model prog w) A (Builtin.Slice.sliceApplied (.ref sl) (pure (n : Int))) Q E s := by
  obtain ⟨os, hos, hcs, hds⟩ := id hs
  unfold Builtin.Slice.sliceApplied Builtin.Slice.sliceFields
  refine wpAny_bind (wpAny_bind (wpAny_field hos hds (x := vl) rfl (wpAny_bind (wpAny_field hos hds (x := .none) rfl (wpAny_bind (wpAny_field hos hds (x := vs) rfl (wpAny_pure ?_)))))))
  refine wpAny_bind (HT.slicePart_ ps ?_)
  show wpAny _ _ (if ((2 : Int) == 0) = true then _ else _) _ _ s
  rw [if_neg (by decide)]
  refine wpAny_bind (HT.slicePart_ pl (wpAny_bind (HT.slicePart_ .none (wpAny_bind (wpAny_pure ?_)))))
  show wpAny _ _ (match Builtin.Slice.sliceAdjust lo none 2 (n : Int) with | (lo, hi) => pure (lo, (2 : Int), Builtin.Slice.slicePlaces lo hi 2)) _ _ s
  rw [adjust_two lo n]
  show wpAny _ _ (pure (((HT.sIx n 0 lo : Nat) : Int), (2 : Int), Builtin.Slice.slicePlaces ((HT.sIx n 0 lo : Nat) : Int) (n : Int) 2)) _ _ s
  rw [places_two _ _ (HT.sIx_le _ _ (Nat.zero_le _) lo)]
  exact wpAny_pure h
theorem pick_two (xs : Array Value) (i : Nat) : ((List.range ((xs.size - i + 1) / 2)).filterMap fun (m : Nat) => xs[((i : Int) + (m : Int) * 2).toNat]?).toArray = (ev2 (xs.toList.drop i)).toArray := by
  have e : (fun (m : Nat) => xs[((i : Int) + (m : Int) * 2).toNat]?) = fun m => (xs.toList.drop i)[m * 2]? := by
    funext m
    have : ((i : Int) + (m : Int) * 2).toNat = i + m * 2 := by omega
    rw [this, List.getElem?_drop, Array.getElem?_toList]
  rw [e, ← pick2 (xs.toList.drop i), List.length_drop, Array.length_toList]
theorem getItem_tuple_two {t sl : Addr} {items : Array Value} {vl vs : Value} {lo : Option Int} {Q : Value → Shared → Prop} (ht : IsTup s.heap t items) (hs : s.heap.IsSliceOf sl vl .none vs) (pl : IsPart vl lo) (ps : IsPart vs (some 2))
    (h : Q (.ref s.heap.objs.size) { s with heap := s.heap.push { cls := .type "tuple", data := .seq (ev2 (items.toList.drop (HT.sIx items.size 0 lo))).toArray } })
    (hsz : items.size ≤ sizeLine) : wpAny (model prog w) A (getItem (.ref t) (.ref sl)) Q E s := by
  have htake : sizeOk (.seq (ev2 (items.toList.drop (HT.sIx items.size 0 lo))).toArray) := by
    show (ev2 (items.toList.drop (HT.sIx items.size 0 lo))).toArray.size ≤ sizeLine
    have := ev2_len (items.toList.drop (HT.sIx items.size 0 lo))
    have e : items.toList.length = items.size := Array.length_toList
    rw [List.length_drop, e] at this
    rw [List.size_toArray]
    omega
  obtain ⟨os, hos, hcs, hds⟩ := id hs
  have hTs : s.TypeIs (.ref sl) "slice" := ⟨os, hos, hcs⟩
  unfold getItem
  try with_reducible refine wpAny_holding ?_
  first | refine wpAny_bind (wpAny_pure ?_) | skip
  refine wpAny_bind (wpAny_sequenceKey ht.typeIs (by decide) ?_)
  refine wpAny_bind (wpAny_callSpecial?_slot (name := Str.ofString "__getitem__") ht.typeIs PyProof.Rows.slot_tuple_getitem
    (wpAny_call_entry PyProof.Rows.slot_tuple_getitem ht.typeIs entry_tuple_getitem ?_ (args_tuple_getitem _ _)))
  show wpAny _ _ (Builtin.Tuple.tupleItemsOf (.ref t) >>= _) _ _ s
  refine wpAny_bind (tupleItemsOf_ ht ?_)
  refine wpAny_bind (wpAny_typeOf hTs ?_)
  rw [if_pos (by decide)]
  refine wpAny_bind (sliceApplied_two hs pl ps ?_)
  have hno : ¬ ((((HT.sIx items.size 0 lo : Nat) : Int) == 0 && (2 : Int) == 1 && ((items.size - HT.sIx items.size 0 lo + 1) / 2) == items.size) = true) := by
    intro q
    rw [Bool.and_eq_true, Bool.and_eq_true] at q
    exact absurd q.1.2 (by decide)
  show wpAny _ _ (if (((HT.sIx items.size 0 lo : Nat) : Int) == 0 && (2 : Int) == 1 && ((items.size - HT.sIx items.size 0 lo + 1) / 2) == items.size) = true then _ else _) _ _ s
  rw [if_neg hno, pick_two]
  first
    | exact wpAny_bind (m := Builtin.Tuple.tupleExact _) (wpAny_newObj_type (wpAny_pure ⟨_, rfl, wpAny_pure h⟩) htake)
    | exact wpAny_bind (m := Builtin.Tuple.tupleExact _) (wpAny_newObj_type (wpAny_bind (wpAny_pure (wpAny_pure ⟨_, rfl, wpAny_pure h⟩))) htake)
    | exact wpAny_bind (wpAny_bind (m := Builtin.Tuple.tupleExact _) (wpAny_newObj_type (wpAny_pure (wpAny_pure ⟨_, rfl, wpAny_pure h⟩)) htake))
    | exact wpAny_bind (wpAny_bind (m := Builtin.Tuple.tupleExact _) (wpAny_newObj_type (wpAny_pure ⟨_, rfl, wpAny_pure h⟩) htake))
end
/-- t[k::2] -/
def tTwoT (K : PySem.W.Frag) (te : TE) (tl : TO) : TE := fun σ H Q => te σ H fun x H1 => tl σ H1 fun lo H2 => ∃ a xs, x = .ref a ∧ SqT K H2 a xs ∧ ∀ p, H2 p = none → Q (.ref p) (upd H2 p (.tup (ev2 (xs.drop (HT.sIx xs.length 0 lo)))))
section
variable {X : Cx}
theorem pe_twoT {e : Expr} {lo : Option Expr} {te : TE} {tl : TO} {k : Nat} {p2 p3 pos : Pos} (he : PE X e te) (hl : PO X lo tl) : PE X (.Subscript e (.Slice lo none (some (.Constant (.int 2) k p2)) p3) pos) (tTwoT X.K te tl) := by
  refine ⟨fun pins s σ H Q I h => ?_⟩
  refine Subscript_ (thn (he.run pins s σ H _ I h) fun v s1 ⟨x, H1, I1, r1, q1⟩ => ?_)
  have hst : PO X (some (.Constant (.int 2) k p2)) (tPart (tC (.int 2))) := po_some pe_int
  refine wpAny_Slice (thn (hl.run pins s1 σ H1 _ I1 q1) fun vl s2 ⟨l, H2, I2, pl, a, xs, ex, hx, q⟩ => ?_)
  subst ex
  cases r1
  refine thn (po_none.run pins s2 σ H2 (fun o H3 => o = none ∧ H3 = H2) I2 ⟨rfl, rfl⟩) fun vu s3 ⟨u, H3, I3, pu, eu, e3⟩ => ?_
  subst eu e3
  refine thn (hst.run pins s3 σ H3 (fun o H4 => o = some 2 ∧ H4 = H3) I3 ⟨2, rfl, rfl, rfl⟩) fun vs s4 ⟨o, H4, I4, ps, eo, e4⟩ => ?_
  subst eo e4
  have I5 : Inv X pins σ H4 { s4 with heap := s4.heap.push { cls := .type "slice", data := .fields #[vl, vu, vs] } } := I4.kept (t' := s4.toks) fun b ob q => Heap.get?_push_of_some _ q
  obtain ⟨its, r, ht, hz⟩ := I5.tuple hx
  have hlen : its.toArray.size = xs.length := by rw [List.size_toArray]; exact r.length.symm
  have hvu : vu = .none := by cases pu; rfl
  subst hvu
  show wpAny (model X.prog X.w) X.A (subscriptTail e (.Slice lo none (some (.Constant (.int 2) k p2)) p3) (.ref a) (.ref s4.heap.objs.size)) (EP X pins σ Q) X.xe { s4 with heap := s4.heap.push { cls := .type "slice", data := .fields #[vl, .none, vs] } }
  refine tail_any (ops := [.ref a, .ref s4.heap.objs.size]) ht.typeIs (PyProof.Rows.slot_tuple_getitem.lookup) ?_ (by with_unfolding_all rfl)
  refine getItem_tuple_two ht (Heap.IsSliceOf.new _ vl .none vs) pl ps ?_ (by rw [hlen]; exact hz)
  rw [hlen]
  refine ⟨.ref _, _, I5.laid (t' := s4.toks) (o := .tup (ev2 (xs.drop (HT.sIx xs.length 0 l)))) (fun b ob q => Heap.get?_push_of_some _ q) (Nat.le_refl _) ?_, rfl, q _ (I5.hok.fresh (Nat.le_refl _))⟩
  have hle := ev2_len (xs.drop (HT.sIx xs.length 0 l))
  rw [List.length_drop] at hle
  exact ⟨by omega, _, vals_ev2 (r.drop (HT.sIx xs.length 0 l)), IsTup.new _ _⟩
end
end HP
/-! zip of a tuple and a text -/
namespace HE
open PySem PySem.Spec PySem.Calls PyProof.Rows L2 RZ
open Sem (wp)
/-- a tuple at b and the signs of x, as they stand at each turn -/
def ItzTS (K : PySem.W.Frag) (b : Addr) (x : Str) : It :=
  ⟨fun i H => ∃ (ys : List V) (y : V), SqT K H b ys ∧ i < x.cps.size ∧ ys[i]? = some y,
    fun i H v H' => ∃ (T : Addr) (c : Nat) (y : V), v = .ref T ∧ H T = none ∧ H' = upd H T (.tup [y, .str ⟨#[c]⟩]) ∧ x.cps[i]? = some c ∧ ∀ ys, SqT K H b ys → ys[i]? = some y,
    fun i H => ∃ ys : List V, SqT K H b ys ∧ i ≤ x.cps.size ∧ i ≤ ys.length ∧ (x.cps.size ≤ i ∨ ys.length ≤ i)⟩
def ZTtS (z TI TO i1 i2 b : Addr) (x : Str) (t : Tok) (i : Nat) (h : Heap) : Prop := IsZip h z TI TO .none ∧ IsTupOf2 h TI (.ref i1) (.ref i2) ∧ (∃ x y, IsTupOf2 h TO x y) ∧ h.IsTupleIter i1 b i ∧ h.IsStrIter i2 (strIterType x) x t i
theorem ZTtS.live {z TI TO i1 i2 b : Addr} {x : Str} {t : Tok} {i : Nat} {h : Heap} (st : ZTtS z TI TO i1 i2 b x t i h) {c : Addr} (hc : c ∈ [z, TI, TO, i1, i2]) : ∃ o, h.get? c = some o ∧ ∀ v, o.data ≠ .cell v := by
  obtain ⟨h1, h2, ⟨x, y, h3⟩, ⟨p, e4, _, d4⟩, ⟨q, e5, _, d5⟩⟩ := st
  rcases mem5 hc with e | e | e | e | e <;> subst e
  · exact ⟨_, h1, fun v q => nomatch q⟩
  · exact ⟨_, h2, fun v q => nomatch q⟩
  · exact ⟨_, h3, fun v q => nomatch q⟩
  · exact ⟨p, e4, fun v q => by rw [d4] at q; cases q⟩
  · exact ⟨q, e5, fun v z => by rw [d5] at z; cases z⟩
theorem sep_ofT {n b : Addr} (hb : b < n) : ZipSep2 (n + 4) (n + 2) (n + 3) n (n + 1) [n, b] [n + 1] := by
  have e : ∀ k j : Nat, k ≠ j → n + k ≠ n + j := fun k j h z => h (Nat.add_left_cancel z)
  have ne : ∀ {c : Addr} (k : Nat), c < n → n + k ≠ c := fun k h z => Nat.lt_irrefl n (Nat.lt_of_le_of_lt (Nat.le_add_right n k) (z ▸ h))
  constructor
  · exact e 2 4 (by decide)
  · exact e 3 4 (by decide)
  · exact e 2 3 (by decide)
  · exact e 2 0 (by decide)
  · simp
  · simp only [List.mem_cons, List.not_mem_nil, or_false, not_or]; exact ⟨e 4 0 (by decide), ne 4 hb⟩
  · simp only [List.mem_cons, List.not_mem_nil, or_false, not_or]; exact ⟨e 3 0 (by decide), ne 3 hb⟩
  · exact e 2 1 (by decide)
  · simp
  · simp only [List.mem_cons, List.not_mem_nil, or_false, not_or]; exact e 4 1 (by decide)
  · simp only [List.mem_cons, List.not_mem_nil, or_false, not_or]; exact e 3 1 (by decide)
  · simp only [List.mem_cons, List.not_mem_nil, or_false, not_or]; exact e 0 1 (by decide)
  · simp only [List.mem_cons, List.not_mem_nil, or_false, not_or]; exact ⟨e 1 0 (by decide), ne 1 hb⟩
theorem turn_zipTS {P : Program} {w : World} {K : PySem.W.Frag} {elts : List Expr} {kk : Nat} {tpos : Pos} {x : Str} {t : Tok} {b z TI TO i1 i2 : Addr} (D : ZipSep2 z TI TO i1 i2 [i1, b] [i2]) (hbi : b ≠ i1) (hz1 : i1 ≠ z) (hz2 : i2 ≠ z) :
    Turn P w K (.Tuple elts kk tpos) (ItzTS K b x) [z, TI, TO, i1, i2] z (ZTtS z TI TO i1 i2 b x t) where
  mem := by simp
  obj := fun i h st c hc => st.live hc
  keep := fun i h h' st k => by
    obtain ⟨h1, h2, ⟨x, y, h3⟩, h4, h5⟩ := st
    exact ⟨k z (by simp) _ h1, k TI (by simp) _ h2, ⟨x, y, k TO (by simp) _ h3⟩, h4.at fun o q => k i1 (by simp) o q, strIter_at h5 fun o q => k i2 (by simp) o q⟩
  item := by
    intro X hP hw hK hc i pins s σ H E I hf st hg
    subst hP hw hK
    obtain ⟨g1, g2, ⟨x0, y0, g3⟩, g4, g5⟩ := id st
    obtain ⟨ys, y, hqy, hx, hy⟩ := hg
    obtain ⟨its2, rv2, p2, _⟩ := I.tuple hqy
    obtain ⟨u2, hu2, ru2⟩ := rv2.get hy
    have ht : s.heap.IsTuple b its2.toArray := p2
    have lt2 : i < its2.toArray.size := by have := (List.getElem?_eq_some_iff.mp hu2).1; simpa using this
    have zl : z < s.heap.objs.size := Heap.lt_size g1
    refine wpAny_pyNext_zipD2_item D (PySem.Draws.tuple (A := X.A.in1) (I.ok.hd hc) i1 b hbi its2.toArray) (PySem.Draws.text (A := X.A.in1) (I.ok.hd hc) i2 x t) g1 g2 g3 ⟨g4, ht⟩ g5 lt2 hx
      fun v2 v1 h' tk e2 e1 z' t' s2 s1 hT hsz hk => ?_
    obtain ⟨c, uc, hcc, rfl⟩ := e1
    have ev2 : v2 = u2 := by
      have h1 : its2.toArray[i]? = some u2 := by simpa using hu2
      rw [e2] at h1
      exact Option.some.inj h1
    subst ev2
    refine ⟨_, rfl, wpAny_letOwnedTupleGo_zip (s := { s with heap := h', toks := tk }) z' fun h2 z2 sb => ?_⟩
    have nz : s.heap.objs.size ≠ z := Nat.ne_of_gt zl
    have hT2 : h2.get? s.heap.objs.size = some { cls := .type "tuple", data := .seq #[v2, .str ⟨#[c]⟩ uc] } := (sb.2 _ nz).trans hT
    have old : ∀ c o, c ∉ [z, TI, TO, i1, i2] → s.heap.get? c = some o → h2.get? c = some o := fun c o hm q => by
      simp only [List.mem_cons, List.not_mem_nil, or_false, not_or] at hm
      exact (sb.2 c hm.1).trans (hk c o hm.1 hm.2.2.1 hm.2.2.2.1 hm.2.2.2.2 q)
    have new : ObjOk X.prog X.w (upd H s.heap.objs.size (.tup [y, .str ⟨#[c]⟩])) h2 s.heap.objs.size (.tup [y, .str ⟨#[c]⟩]) :=
      ⟨by show 2 ≤ sizeLine; decide, [v2, .str ⟨#[c]⟩ uc], .cons ru2 (.cons ⟨uc, rfl⟩ .nil), ⟨_, hT2, rfl, _, rfl⟩⟩
    have I1 := I.turnedNew (t' := tk) (ch := [z, TI, TO, i1, i2]) (h' := h2) old hf (Nat.le_refl _) new
    refine ⟨.ref s.heap.objs.size, _, I1, rfl, ⟨_, c, y, rfl, I.hok.fresh (Nat.le_refl _), rfl, hcc, fun l hl => by rw [I.tuple_inj hl hqy]; exact hy⟩,
      ⟨z2, (sb.2 _ D.TIz).trans (hk _ _ D.TIz D.TITO D.TIi1 D.TIi2 g2), ⟨v2, _, (sb.2 _ D.TOz).trans t'⟩, s2.1.at fun o q => (sb.2 _ hz1).trans q, strIter_at s1 fun o q => (sb.2 _ hz2).trans q⟩, fun c hm => ?_⟩
    obtain ⟨o, ho, _⟩ := st.live hm
    rw [upd_ne (Nat.ne_of_lt (Heap.lt_size ho))]
    exact (hf c hm).1
  done := by
    intro X hP hw hK hc i pins s σ H E I hf st hg
    subst hP hw hK
    obtain ⟨g1, g2, ⟨x0, y0, g3⟩, g4, g5⟩ := st
    obtain ⟨ys, hqy, hi1, hi2, hend⟩ := hg
    obtain ⟨its2, rv2, p2, _⟩ := I.tuple hqy
    have ht : s.heap.IsTuple b its2.toArray := p2
    have l2 := rv2.length
    have fin : ∀ (h' : Heap) (tk : Nat), (∀ c o, c ≠ z → c ≠ TO → c ≠ i1 → c ≠ i2 → s.heap.get? c = some o → h'.get? c = some o) → (none : Option Value) = none ∧ Inv X pins σ H { s with heap := h', toks := tk } := fun h' tk hk =>
      ⟨rfl, I.turnedL (t' := tk) (ch := [z, TI, TO, i1, i2]) (fun c o hb q => by
        simp only [List.mem_cons, List.not_mem_nil, or_false, not_or] at hb
        exact hk c o hb.1 hb.2.2.1 hb.2.2.2.1 hb.2.2.2.2 q) hf⟩
    have hh := I.ok.hd hc
    refine wpAny_pyNext_zipD2_end D (PySem.Draws.tuple (A := X.A.in1) hh i1 b hbi its2.toArray) (PySem.Draws.text (A := X.A.in1) hh i2 x t) g1 g2 g3 ⟨g4, ht⟩ g5 (by simp only [List.size_toArray]; omega) hi1 ?_ fin
    rcases hend with h | h
    · exact .inr (by omega)
    · exact .inl (by simp only [List.size_toArray]; omega)
  self := fun A i s Q E st h => wpAny_pyIter_zip st.1 h
def iZipTS (K : PySem.W.Frag) (ta : TA) : TI := fun σ H R => ta σ H fun vs H1 => ∃ (x : Str) (b : Addr) (ys : List V), vs = [.ref b, .str x] ∧ SqT K H1 b ys ∧ R (ItzTS K b x) H1
theorem pi_zipTS {X : Cx} {e e2 : Expr} {ta : TA} {p pos tpos : Pos} {elts : List Expr} {kk : Nat} (hg : Gl X "zip") (hm : X.mg "zip" = none) (ha : PA X [e, e2] ta)
    (hs : starEach [e, e2] X.env = (false, eval e X.env) :: starEach [e2] X.env := by rfl) (hpl : (backTo pos (starEach [e2] X.env)).any (·.1) = false := by rfl) :
    PI X (.Tuple elts kk tpos) (.Call (.Name "zip" p) [e, e2] [] pos) (iZipTS X.K ta) := by
  refine ⟨fun pins s σ H R I h => ?_⟩
  refine Call_ (ld_blt I hg hm PyProof.Rows.boot_zip (PyProof.Rows.callWith_type1 (thn (ha.run pos pins s σ H _ I h) fun us s1 ⟨vs, H1, I1, r1, x, b, ys, ex, hqy, q⟩ => ?_) hs hpl))
  subst ex
  obtain ⟨u1, u2, rfl, ra, rb⟩ := vals2 r1
  obtain ⟨t, rfl⟩ := rb
  cases ra
  obtain ⟨its2, rv2, p2, _⟩ := I1.tuple hqy
  have ht : s1.heap.IsTuple b its2.toArray := p2
  have bl : b < s1.heap.objs.size := by obtain ⟨_, e, _⟩ := ht; exact Heap.lt_size e
  refine zip_begins2 (begins_tuple b its2.toArray) (begins_text x t) ht trivial fun h' hz hTI hTO k1 k2 hsz hk => wpAny_pyIter_zip hz ?_
  have I2 : Inv X pins σ H1 { s1 with heap := h' } := I1.kept (t' := s1.toks) hk
  have n1 : ∀ k : Nat, s1.heap.objs.size + (k + 1) ≠ s1.heap.objs.size := fun k z => absurd (Nat.add_left_cancel (show s1.heap.objs.size + (k + 1) = s1.heap.objs.size + 0 from z)) (Nat.succ_ne_zero k)
  have n2 : s1.heap.objs.size + 1 ≠ s1.heap.objs.size + 4 := fun z => absurd (Nat.add_left_cancel z) (by decide)
  refine ⟨s1.heap.objs.size + 4, _, _, _, H1, rfl, I2, turn_zipTS (x := x) (t := t) (sep_ofT bl) (Nat.ne_of_lt bl) (Ne.symm (n1 3)) n2, ⟨hz, hTI, ⟨_, _, hTO⟩, ⟨_, k1, rfl, rfl⟩, ⟨_, k2, rfl, rfl⟩⟩, fun c hm => ?_, q⟩
  have hle : s1.heap.objs.size ≤ c := by
    rcases mem5 hm with e | e | e | e | e <;> rw [e]
    · exact Nat.le_add_right _ _
    · exact Nat.le_add_right _ _
    · exact Nat.le_add_right _ _
    · exact Nat.le_refl _
    · exact Nat.le_add_right _ _
  exact I1.fpOk hle (I1.hok.fresh hle)
theorem walk_zipTS {K : PySem.W.Frag} {x : Str} {b : Addr} {ys : List V} {n : Nat} (hn : n = min x.cps.size ys.length) : Walk (ItzTS K b x) n (fun H => SqT K H b ys) (YPair (fun i => ys[i]?) (fun i => (x.cps[i]?).map fun c => .str ⟨#[c]⟩)) := by
  subst hn
  refine ⟨fun i H hi q => ?_, fun _ q => ⟨ys, q, by omega, by omega, by omega⟩, fun i H v H' _ q y => ?_⟩
  · have h1 : i < x.cps.size := by omega
    have h2 : i < ys.length := by omega
    exact ⟨ys, ys[i], q, h1, by simp [h2]⟩
  · obtain ⟨T, c, y, e1, e2, e3, e4, e5⟩ := y
    exact ⟨T, y, .str ⟨#[c]⟩, e1, e2, e3, e5 ys q, by show (x.cps[i]?).map _ = _; rw [e4]; rfl⟩
end HE
/-! data with new lists and empty dicts in it: isinstance and repr -/
namespace HM
open PySem PySem.Spec PyProof.Rows L2 HB HX HD
mutual
inductive Dx (K : PySem.W.Frag) (A : Addr → Prop) (H : Hp) : V → PyData → Prop
  | non : Dx K A H .non .none
  | bl (b : Bool) : Dx K A H (.bl b) (.bool b)
  | int (i : Int) : Dx K A H (.int i) (.int i)
  | str (x : Str) : Dx K A H (.str x) (.str x)
  | lst {a : Addr} {xs : List V} {ds : List PyData} : A a → H a = some (.lst xs) → DxAll K A H xs ds → Dx K A H (.ref a) (.list ds)
  | emp {a : Addr} : A a → H a = some (.dK []) → Dx K A H (.ref a) (.dict [])
  | tup {a : Addr} {xs : List V} {ds : List PyData} : SqT K H a xs → DxAll K A H xs ds → Dx K A H (.ref a) (.tuple ds)
inductive DxAll (K : PySem.W.Frag) (A : Addr → Prop) (H : Hp) : List V → List PyData → Prop
  | nil : DxAll K A H [] []
  | cons {v : V} {vs : List V} {d : PyData} {ds : List PyData} : Dx K A H v d → DxAll K A H vs ds → DxAll K A H (v :: vs) (d :: ds)
end
section
variable {K : PySem.W.Frag} {A B : Addr → Prop} {H H' : Hp}
mutual
theorem Dx.keep (k : ∀ a o, A a → H a = some o → H' a = some o) (kt : ∀ (a : Addr) (xs : List V), SqT K H a xs → SqT K H' a xs) (ab : ∀ a o, A a → H a = some o → B a) : ∀ {v : V} {d : PyData}, Dx K A H v d → Dx K B H' v d
  | _, _, .non => .non
  | _, _, .bl b => .bl b
  | _, _, .int i => .int i
  | _, _, .str x => .str x
  | _, _, .lst h1 h2 h3 => .lst (ab _ _ h1 h2) (k _ _ h1 h2) (DxAll.keep k kt ab h3)
  | _, _, .emp h1 h2 => .emp (ab _ _ h1 h2) (k _ _ h1 h2)
  | _, _, .tup h1 h2 => .tup (kt _ _ h1) (DxAll.keep k kt ab h2)
theorem DxAll.keep (k : ∀ a o, A a → H a = some o → H' a = some o) (kt : ∀ (a : Addr) (xs : List V), SqT K H a xs → SqT K H' a xs) (ab : ∀ a o, A a → H a = some o → B a) : ∀ {vs : List V} {ds : List PyData}, DxAll K A H vs ds → DxAll K B H' vs ds
  | _, _, .nil => .nil
  | _, _, .cons h t => .cons (Dx.keep k kt ab h) (DxAll.keep k kt ab t)
end
theorem Dx.same {v : V} {d : PyData} (h : Dx K A H v d) (s : Same H H') : Dx K A H' v d := h.keep (fun a o _ e => s a o e) (fun _ _ e => s.sqt e) fun _ _ e _ => e
theorem DxAll.same {vs : List V} {ds : List PyData} (h : DxAll K A H vs ds) (s : Same H H') : DxAll K A H' vs ds := h.keep (fun a o _ e => s a o e) (fun _ _ e => s.sqt e) fun _ _ e _ => e
mutual
theorem Dx.of : ∀ {v : V} {d : PyData}, HK.tupD d = true → Dp K H v d → Dx K A H v d
  | _, _, _, .non => .non
  | _, _, _, .bl b => .bl b
  | _, _, _, .int i => .int i
  | _, _, _, .str x => .str x
  | _, _, t, .lst h j => by cases t
  | _, _, t, .tup h j => .tup h (DxAll.of t j)
theorem DxAll.of : ∀ {vs : List V} {ds : List PyData}, HK.tupAll ds = true → DpAll K H vs ds → DxAll K A H vs ds
  | _, _, _, .nil => .nil
  | _, _, t, .cons h j => by
    simp only [HK.tupAll, Bool.and_eq_true] at t
    exact .cons (Dx.of t.1 h) (DxAll.of t.2 j)
end
mutual
theorem Dx.dp : ∀ {v : V} {d : PyData}, HK.tupD d = true → Dx K A H v d → Dp K H v d
  | _, _, _, .non => .non
  | _, _, _, .bl b => .bl b
  | _, _, _, .int i => .int i
  | _, _, _, .str x => .str x
  | _, _, t, .lst _ h j => by cases t
  | _, _, t, .emp _ h => by cases t
  | _, _, t, .tup h j => .tup h (DxAll.dp t j)
theorem DxAll.dp : ∀ {vs : List V} {ds : List PyData}, HK.tupAll ds = true → DxAll K A H vs ds → DpAll K H vs ds
  | _, _, _, .nil => .nil
  | _, _, t, .cons h j => by
    simp only [HK.tupAll, Bool.and_eq_true] at t
    exact .cons (Dx.dp t.1 h) (DxAll.dp t.2 j)
end
theorem dxAll_len : ∀ {vs : List V} {ds : List PyData}, DxAll K A H vs ds → vs.length = ds.length
  | _, _, .nil => rfl
  | _, _, .cons _ t => congrArg (· + 1) (dxAll_len t)
/-- the kind's name, of dicts too -/
def kindX : PyData → String
  | .dict _ => "dict"
  | d => kindD d
theorem dx_ty {v : V} {d : PyData} (h : Dx K A H v d) : TyX K H v (.type (kindX d)) ∧ kindX d ∈ ["NoneType", "bool", "int", "str", "list", "tuple", "dict"] := by
  cases h with
  | non => exact ⟨.base .non, by simp [kindX, kindD]⟩
  | bl b => exact ⟨.base (.bl b), by simp [kindX, kindD]⟩
  | int i => exact ⟨.base (.int i), by simp [kindX, kindD]⟩
  | str x => exact ⟨.base (.str x), by simp [kindX, kindD]⟩
  | lst _ h _ => exact ⟨.base (.lst h), by simp [kindX, kindD]⟩
  | emp _ h => exact ⟨.base (.dK h), by simp [kindX]⟩
  | tup h _ =>
    refine ⟨?_, by simp [kindX, kindD]⟩
    rcases h with (h | ⟨o, h⟩) | ⟨o, its, n, h, c, _⟩
    · exact .base (.tup h)
    · exact .fTuple h
    · exact .kTuple h c
theorem kit_x {d : PyData} {k : String} (hk : k ∈ ["str", "tuple", "bool", "list", "dict"]) (h : kindX d ∈ ["NoneType", "bool", "int", "str", "list", "tuple", "dict"]) : PySem.W.kitOne K (.type (kindX d)) (.type k) = some (decide (kindX d = k)) := by
  have : kitB (kindX d) k = some (decide (kindX d = k)) := by
    generalize kindX d = j at h
    simp only [List.mem_cons, List.not_mem_nil, or_false] at hk h
    rcases hk with rfl | rfl | rfl | rfl | rfl <;> rcases h with rfl | rfl | rfl | rfl | rfl | rfl | rfl <;> decide +kernel
  exact kit_ty this
theorem kit_xInt {d : PyData} (h : kindX d ∈ ["NoneType", "bool", "int", "str", "list", "tuple", "dict"]) : PySem.W.kitOne K (.type (kindX d)) (.type "int") = some (decide (kindX d = "int" ∨ kindX d = "bool")) := by
  have : kitB (kindX d) "int" = some (decide (kindX d = "int" ∨ kindX d = "bool")) := by
    generalize kindX d = j at h
    simp only [List.mem_cons, List.not_mem_nil, or_false] at h
    rcases h with rfl | rfl | rfl | rfl | rfl | rfl | rfl <;> decide +kernel
  exact kit_ty this
end
section
variable {X : Cx} {pins : List (Addr × Obj)} {σ : L2.St} {H : Hp} {s : Shared} {A : Addr → Prop}
theorem no_sys (hs : (X.K.lookup sysModules).isSome = true) (I : Inv X pins σ H s) : H sysModules = none := by
  obtain ⟨o, ho⟩ := Option.isSome_iff_exists.mp hs
  exact (I.bs _ _ (I.mod.kin _ _ ho)).2
mutual
theorem Dx.reads (hs : (X.K.lookup sysModules).isSome = true) (I : Inv X pins σ H s) : ∀ (d : PyData) (v : V) (u : Value), Dx X.K A H v d → RelV v u → ∃ as, Reads s.heap u d as ∧ sysModules ∉ as
  | .none, _, _, h, r => by
    cases h
    cases r
    exact ⟨_, Reads.none, List.not_mem_nil⟩
  | .bool b, _, _, h, r => by
    cases h
    cases r
    exact ⟨_, Reads.bool b, List.not_mem_nil⟩
  | .int i, _, _, h, r => by
    cases h
    obtain ⟨t, rfl⟩ := r
    exact ⟨_, Reads.int i t, List.not_mem_nil⟩
  | .str x, _, _, h, r => by
    cases h
    obtain ⟨t, rfl⟩ := r
    exact ⟨_, Reads.str x t, List.not_mem_nil⟩
  | .list ds, _, _, h, r => by
    cases h with
    | lst _ hs2 ha =>
      cases r
      obtain ⟨its, rv, ⟨o, n, ho, hc, _, hd⟩, _⟩ := I.list (.inl (.inl hs2))
      obtain ⟨as, hr, hn⟩ := Dx.readsAll hs I ds _ its ha rv
      refine ⟨_, Reads.list ho hc hd hr, fun m => ?_⟩
      rcases List.mem_cons.mp m with e | m
      · rw [← e, no_sys hs I] at hs2
        cases hs2
      · exact hn m
  | .tuple ds, _, _, h, r => by
    cases h with
    | tup hs2 ha =>
      cases r
      obtain ⟨its, rv, ⟨o, ho, hc, n, hd⟩, _⟩ := I.tuple hs2
      obtain ⟨as, hr, hn⟩ := Dx.readsAll hs I ds _ its ha rv
      exact ⟨_, Reads.tuple ho hc hd hr, hn⟩
  | .dict _, _, _, h, r => by
    cases h with
    | emp _ h2 =>
      cases r
      obtain ⟨_, _, vs, rel, o, es, ep, ho, hx, hd, _, hp, _⟩ := dk_of I.hok h2
      cases rel
      have e0 : es.toList = [] := by
        generalize es.toList = l at hp
        cases hp
        rfl
      refine ⟨_, Reads.dict (as := []) (bs := []) ho hx.1 hd (by rw [e0]; exact .nil) (by rw [e0]; exact .nil), fun m => ?_⟩
      rcases List.mem_cons.mp m with e | m
      · rw [← e, no_sys hs I] at h2
        cases h2
      · cases m
theorem Dx.readsAll (hs : (X.K.lookup sysModules).isSome = true) (I : Inv X pins σ H s) : ∀ (ds : List PyData) (vs : List V) (us : List Value), DxAll X.K A H vs ds → Vals vs us → ∃ as, ReadsAll s.heap us ds as ∧ sysModules ∉ as
  | [], _, _, h, r => by
    cases h
    cases r
    exact ⟨_, ReadsAll.nil, List.not_mem_nil⟩
  | d :: ds, _, _, h, r => by
    cases h with
    | cons h1 h2 =>
      cases r with
      | cons r1 r2 =>
        obtain ⟨as, q1, n1⟩ := Dx.reads hs I d _ _ h1 r1
        obtain ⟨bs, q2, n2⟩ := Dx.readsAll hs I ds _ _ h2 r2
        exact ⟨_, ReadsAll.cons q1 q2, fun m => (List.mem_append.mp m).elim n1 n2⟩
end
def rReprX (K : PySem.W.Frag) : List V → Hp → VK → Prop := fun vs H Q => ∃ (A : Addr → Prop) (a : Addr) (d : PyData), vs = [.ref a] ∧ Dx K A H (.ref a) d ∧ d.showable = true ∧ d.depth ≤ 60 ∧ d.shown.length ≤ sizeLine ∧ Q (.str d.shown) H
theorem call_reprX (hs : (X.K.lookup sysModules).isSome = true) (sh : HG.Shut X.A) (hu : X.A.units + 64 < cLine) : CallR X (.builtin "repr") (rReprX X.K) := by
  intro pins s σ H vs us Q I r h
  obtain ⟨A, a, d, rfl, hd, sw, dep, len, q⟩ := h
  obtain ⟨u, rfl, rx⟩ := vals1 r
  obtain ⟨as, r1, nm⟩ := Dx.reads hs I d _ u hd rx
  cases rx
  exact repr_of_reads' r1 sw (fun _ => nm) sh (by omega) (fun _ _ e => e) (fun h' u tk hk => ⟨.str d.shown, H, I.kept hk, ⟨u, rfl⟩, q⟩) len
end
end HM
/-! isinstance of a caught error of an own class that has its own dict; methods that may raise, within a try -/
namespace HA
open PySem PySem.Spec PySem.Calls PyProof.Rows PySem.W
section
variable {prog : Program} {w : World} {A : Around} {E : Value → Shared → Prop} {s : Shared} {K : Frag} {x D : Addr} {ox : Obj} {od : Option Obj}
theorem findObj_dataX {C : Addr} {name : Str} {a g : Value} (hc : (clsIn K C).isSome = true) (ha : findIn K (.ref C) name = some (some a)) (hg : specialIn K a "__get__" = some (some g)) (ht : takesIn K a = some true) : findObj K C od name = some (.bind g a) := by
  obtain ⟨cd, hc⟩ := Option.isSome_iff_exists.mp hc
  unfold findObj
  rw [hc, Option.bind_some, ha, Option.bind_some]
  simp [hg, ht]
theorem kin_classX {Q : Option Value → Shared → Prop} (hga : findIn K (.ref D) "__getattribute__" = some (some (.builtin "BaseException.__getattribute__"))) (hgt : findIn K (.ref D) "__getattr__" = some none) (hsub : subIn K (.ref D) (.type "BaseException") = some true)
    (hdct : hasDictIn K D = true) (ha : findIn K (.ref D) "__class__" = some (some (.builtin "object.__class__")))
    (hn : specialIn K (.builtin "object.__class__") "__get__" = some (some (.builtin "getset_descriptor.__get__"))) (htk : takesIn K (.builtin "object.__class__") = some true) (hm : mroIn K D (.type "object") = some true)
    (X : K.In s.heap) (I : InstAt s.heap x ox D od) (h : Q (some (.ref D)) { s with toks := s.toks + 1 }) : wpAny (model prog w) A (getAttr? (.ref x) "__class__") Q E s := by
  have hf : findObj K D od "__class__" = some (.bind (.builtin "getset_descriptor.__get__") (.builtin "object.__class__")) := findObj_dataX (by obtain ⟨cd, hc, _⟩ := any_some hdct; rw [hc]; rfl) ha hn htk
  obtain ⟨hp, g, d, t, os⟩ := s
  have L0 := I.type (M := model prog w)
  have L1 := looks_findIn (M := model prog w) X hga
  have L2 := looks_findIn (M := model prog w) X hgt
  have L3 := looks_find (M := model prog w) X I hf
  have sub : Looks (model prog w) hp (isInstance (.ref x) (.type "BaseException")) true := L0.andThen (looks_subIn X hsub)
  have hx0 : (false && onTheHeap (Value.builtin "BaseException.__getattribute__")) = false := rfl
  have hx2 : (Value.builtin "BaseException.__getattribute__" == Value.builtin "object.__getattribute__") = false := by decide +kernel
  have hx1 : (onTheHeap (Value.ref D) && Value.builtin "BaseException.__getattribute__" == Value.builtin "object.__getattribute__") = false := by rw [hx2]; rfl
  unfold getAttr? getAttrBy? getAttrBy
  refine wpAny_bind (wpAny_mkText (wpAny_bind (wpAny_attempt (wpAny_holding (wpAny_bind (L0.at (wpAny_bind (L1.at ?_))))))))
  show wpAny _ _ (if (onTheHeap (Value.ref D) && Value.builtin "BaseException.__getattribute__" == Value.builtin "object.__getattribute__") = true then _ else _) _ _ _
  rw [hx1, if_neg Bool.false_ne_true]
  unfold getAttrByItsOwn hookBefore
  refine wpAny_bind ?_
  rw [if_pos (show onTheHeap (Value.ref D) = true from rfl)]
  refine L2.at ?_
  refine wpAny_bind (wpAny_attempt (wpAny_holding ?_))
  unfold callGetattribute
  rw [hx0, if_neg Bool.false_ne_true]
  unfold boundAndCalled
  rw [PySem.F.excAttr_ValueError.ga.bind (.ref x)]
  refine wpAny_bind (wpAny_pure ?_)
  show wpAny _ _ (call (.builtin "BaseException.__getattribute__") [.ref x, .str "__class__" t]) _ _ _
  refine wpAny_call (codeAny_call_builtin PySem.F.excAttr_ValueError.ga.plain PySem.F.entry_bexc_ga ?_)
  refine @check_slot (model prog w) _ _ ⟨hp, g, d, t + 1, os⟩ "BaseException.__getattribute__" "BaseException" "__getattribute__" (.ref x) [.str "__class__" t] [] _ (by decide +kernel) (by decide +kernel) sub (PySem.F.args_bexc_ga (.ref x) (.str "__class__" t)) ?_
  unfold Builtin.«object.__getattribute__»
  refine wpAny_bind (wpAny_of_eq (a := ((Value.ref x : Value), [Value.str "__class__" t])) (by first | rfl | (simp only [slotArgs]; rfl)) ?_)
  refine wpAny_bind (wpAny_pure (wpAny_bind (L0.at (wpAny_bind (L3.at ?_)))))
  show wpAny _ _ (holding [Value.builtin "object.__class__"] (call (.builtin "getset_descriptor.__get__") [.builtin "object.__class__", .ref x, .ref D]) >>= ret) _ _ _
  refine wpAny_bind (wpAny_holding (wpAny_call (class_get (s := ⟨hp, g, d, t + 1, os⟩) (ox := ox) (od := od) X I hm ?_)))
  refine wpAny_pure ?_
  show wpAny _ _ (handedOut (.ref D)) _ _ _
  rw [handedOut_of (v := .ref D) rfl]
  first
    | exact wpAny_pure (wpAny_pure h)
    | exact wpAny_pure h
    | exact wpAny_pure (wpAny_bind (wpAny_pure (wpAny_pure h)))
theorem kitx_exc (hga : findIn K (.ref D) "__getattribute__" = some (some (.builtin "BaseException.__getattribute__"))) (hgt : findIn K (.ref D) "__getattr__" = some none) (hsub : subIn K (.ref D) (.type "BaseException") = some true) (hdct : hasDictIn K D = true) (ha : findIn K (.ref D) "__class__" = some (some (.builtin "object.__class__")))
    (hn : specialIn K (.builtin "object.__class__") "__get__" = some (some (.builtin "getset_descriptor.__get__"))) (htk : takesIn K (.builtin "object.__class__") = some true) (hm : mroIn K D (.type "object") = some true) :
    KitX K (.ref x) (.ref D) (fun h => InstAt h x ox D od) where
  ty := fun _ _ _ I => I.type
  it := fun _ _ X _ => by
    obtain ⟨cdD, hcD, _⟩ := any_some hdct
    unfold clsIn at hcD
    split at hcD
    · rename_i c' d' cd' sl' ho
      intro A' Q' E' s' k q
      unfold isType loadHead
      exact wpAny_bind (wpAny_loadPart (k _ _ (X _ _ ho)) (wpAny_pure q))
    · cases hcD
  ne := fun h tp dd its n sl X htp => by
    obtain ⟨cdD, hcD, _⟩ := any_some hdct
    refine Bool.eq_false_iff.mpr fun q => ?_
    have e : D = tp := Value.ref.inj (beq_iff_eq.mp q)
    subst e
    unfold clsIn at hcD
    split at hcD
    · rename_i c' d' cd' sl' ho
      have z := (X _ _ ho).symm.trans htp
      cases z
    · cases hcD
  ca := fun X I k => kin_classX hga hgt hsub hdct ha hn htk hm X I k
end
end HA
namespace HA
open PySem PySem.Spec PyProof.Rows L2
theorem u65 {k : Nat} {A : Around} (r : Room k A) : A.units + 65 < cLine := by have := r.un; omega
/-- what the head asks of such a class -/
def ecB (K : PySem.W.Frag) (D : Addr) : Bool := decide (PySem.W.findIn K (.ref D) "__getattribute__" = some (some (.builtin "BaseException.__getattribute__"))) && (decide (PySem.W.findIn K (.ref D) "__getattr__" = some none) && (decide (PySem.W.subIn K (.ref D) (.type "BaseException") = some true) && (PySem.W.hasDictIn K D &&
  (decide (PySem.W.findIn K (.ref D) "__class__" = some (some (.builtin "object.__class__"))) && (decide (PySem.W.specialIn K (.builtin "object.__class__") "__get__" = some (some (.builtin "getset_descriptor.__get__"))) && (decide (PySem.W.takesIn K (.builtin "object.__class__") = some true) && decide (PySem.W.mroIn K D (.type "object") = some true)))))))
theorem ecB_ok {K : PySem.W.Frag} {D : Addr} (h : ecB K D = true) : ExcC K D := by
  unfold ecB at h
  simp only [Bool.and_eq_true, decide_eq_true_eq] at h
  obtain ⟨h1, h2, h3, h4, h5, h6, h7, h8⟩ := h
  exact ⟨h1, h2, h3, h4, h5, h6, h7, h8⟩
/-- isinstance(e, C), C an own class -/
def isB (C D : Str) (b : Bool) : PySem.W.Frag → Bool := fun K => decide (PySem.W.kitOne K (.ref (He.ga K C)) (.ref (He.ga K D)) = some b)
/-- isinstance(e, c), e the exception that the suite holds -/
def rIsX (K : PySem.W.Frag) (cls : Value) (d : Option Addr) (a : Addr) : List V → Hp → VK → Prop := fun xs H Q => ∃ (D C dd : Addr) (fs : List (Str × V)) (b : Bool), xs = [.ref a, .ref C] ∧ cls = .ref D ∧ ExcC K D ∧ d = some dd ∧ H dd = some (.xd fs) ∧ PySem.W.kitOne K (.ref D) (.ref C) = some b ∧ Q (.bl b) H
theorem call_isX {X : Cx} {a : Addr} {oe : Obj} {cls : Value} {d : Option Addr} {pn : List (Addr × Obj)} (hz : Zc cls d oe) (hf : ∃ vs, oe.data = .fields vs) : CallR (X.suite a ((a, oe) :: pn)) (.builtin "isinstance") (rIsX X.K cls d a) := by
  intro pins s σ H xs us Q I r h
  obtain ⟨D, c, dd, fs, b, rfl, rfl, C, rfl, hdd, e, q⟩ := h
  cases r with
  | cons rx rr =>
    cases rr with
    | cons rt rr =>
      cases rr
      cases rx
      cases rt
      obtain ⟨hget, _⟩ := I.pin (a, oe) (List.mem_append.mpr (.inl List.mem_cons_self))
      obtain ⟨vs, hv⟩ := hf
      have hx : ObjOk X.prog X.w H s.heap dd (.xd fs) := I.hok dd _ hdd
      obtain ⟨mA, hns, hr⟩ := hx
      obtain ⟨od, ho, hl⟩ := lookIn_ns hns
      have J : PySem.W.InstAt s.heap a oe D (some od) := ⟨hget, hz.1, by unfold PySem.W.notCls; rw [hv] <;> rfl, by rw [hz.2]; exact ho⟩
      exact PySem.W.kia_one (kitx_exc C.hg C.hk C.hs C.hd C.ha C.hn C.ht C.hm) I.kIn J e (fun z => nomatch z) fun tk => ⟨.bl b, H, I.kept (t' := tk) fun _ _ z => z, rfl, q⟩
section
variable {X : Cx} {CX : CXT} {k : Nat} {f C : Addr} {fd : FuncData} {ps : List Str} {sp : Sp} {E : L2.St → XK} {x m : Str} {p pos apos : Pos} {e o : Expr} {es : List Expr} {ta : TE} {t : TA}
def tMethX (C : Addr) (m : Str) (sp : Sp) (E : L2.St → XK) (ta : TE) (t : TA) : TE := fun σ H Q => ta σ H fun x H1 => ∃ (a dx : Addr) (fs : List (Str × V)), x = .ref a ∧ H1 a = some (.ins C dx fs) ∧ fs.lookup m = none ∧ t σ H1 fun vs H2 => sp (x :: vs) H2 Q (E σ)
/-- o.m(e, ..) that may raise, within a try -/
theorem pe_methX {pl : Sem Bool} (he : PE X o ta) (c : Cls X.K C) (hm : Meth X.K C m f) (F : FnOk X.prog X.w X.K X.mg X.base CX k f fd ps sp) (hr : Room k X.A) (hb : Binds X.K fd ps []) (hx : ∀ σ, PassesAt CX X σ (E σ)) (ha : PA X (e :: es) t)
    (hst : starEach (e :: es) X.env = (false, eval e X.env) :: starEach es X.env := by rfl) (hpl : (backTo pos (starEach es X.env)).any (·.1) = false := by rfl)
    (ht : eval (.Call (.Attribute o m apos) (e :: es) [] pos) X.env = (do
      let ov ← eval o X.env
      standAt apos.atName
      let (f, first) ← holding [ov] (getMethod ov m pl)
      callWith pos f first (backTo pos (starEach (e :: es) X.env)) (backToKw pos (keywordEach [] X.env))) := by rfl) :
    PE X (.Call (.Attribute o m apos) (e :: es) [] pos) (tMethX C m sp E ta t) := by
  refine ⟨fun pins s σ H Q I h => ?_⟩
  refine PySem.W.methodCall_KW (pl := pl) (thn (he.run pins s σ H _ I h) fun u s1 ⟨x, H1, I1, rx, a, dx, fs, ex, ea, l, q⟩ => ?_) ht
  subst ex
  obtain rfl : u = Value.ref a := rx
  refine getmeth_ok I1 ea c hm l ?_
  refine PySem.W.callWith_K (first := [.ref a]) (h₀ := X.base) I.ok.mod.kin hm.kp (thn (ha.run pos pins s1 σ H1 _ I1 q) fun us s2 ⟨vs, H2, I2, r, q2⟩ => ⟨I2.kIn, ?_⟩) hst hpl
  exact run_fnS (us := .ref a :: us) (vs := .ref a :: vs) F hr hb (hx σ) I2 (.cons rfl r) q2
/-- o.m() that may raise, within a try -/
theorem pe_methX0 {pl : Sem Bool} (he : PE X o ta) (c : Cls X.K C) (hm : Meth X.K C m f) (F : FnOk X.prog X.w X.K X.mg X.base CX k f fd ps sp) (hr : Room k X.A) (hb : Binds X.K fd ps []) (hx : ∀ σ, PassesAt CX X σ (E σ))
    (ht : eval (.Call (.Attribute o m apos) [] [] pos) X.env = (do
      let ov ← eval o X.env
      standAt apos.atName
      let (f, first) ← holding [ov] (getMethod ov m pl)
      callWith pos f first (backTo pos (starEach [] X.env)) (backToKw pos (keywordEach [] X.env))) := by rfl) :
    PE X (.Call (.Attribute o m apos) [] [] pos) (tMethX C m sp E ta tNil) := by
  refine ⟨fun pins s σ H Q I h => ?_⟩
  refine PySem.W.methodCall_KW (pl := pl) (thn (he.run pins s σ H _ I h) fun u s1 ⟨x, H1, I1, rx, a, dx, fs, ex, ea, l, q⟩ => ?_) ht
  subst ex
  obtain rfl : u = Value.ref a := rx
  refine getmeth_ok I1 ea c hm l ?_
  exact PySem.W.callWith_K0 (first := [.ref a]) I1.kIn hm.kp (run_fnS (us := [.ref a]) (vs := [.ref a]) F hr hb (hx σ) I1 (.cons rfl .nil) q)
end
end HA
/-! displays of data in one step: sums of tuples, slices, items; data with new lists in it -/
namespace HR
open PySem PySem.Spec PyProof.Rows L2 HB HX HD HK HM
def cutG {α : Type} (xs : List α) (lo hi : Option Int) : List α := (xs.drop (HT.sIx xs.length 0 lo)).take (HT.sIx xs.length xs.length hi - HT.sIx xs.length 0 lo)
section
variable {K : PySem.W.Frag} {A : Addr → Prop} {σ : L2.St} {H0 : Hp}
theorem dpAll_drop {H : Hp} : ∀ {n : Nat} {vs : List V} {xs : List PyData}, DpAll K H vs xs → DpAll K H (vs.drop n) (xs.drop n)
  | 0, _, _, h => h
  | n + 1, _, _, .nil => .nil
  | n + 1, _ :: _, _ :: _, .cons _ b => dpAll_drop (n := n) b
theorem dpAll_tk {H : Hp} : ∀ {n : Nat} {vs : List V} {xs : List PyData}, DpAll K H vs xs → DpAll K H (vs.take n) (xs.take n)
  | 0, _, _, _ => .nil
  | n + 1, _, _, .nil => .nil
  | n + 1, _, _, .cons a b => .cons a (dpAll_tk b)
theorem dpAll_cut {H : Hp} {vs : List V} {xs : List PyData} (h : DpAll K H vs xs) (lo hi : Option Int) : DpAll K H (cutV vs lo hi) (cutG xs lo hi) := by
  have e := dpAll_len h
  unfold cutV cutG
  rw [e]
  exact dpAll_tk (dpAll_drop h)
def MkP (σ : L2.St) (H0 : Hp) (tl : TO) (o : Option Int) : Prop := ∀ (H : Hp) (Q : Option Int → Hp → Prop), Same H0 H → (∀ H', Same H H' → Q o H') → tl σ H Q
theorem mkp_none : MkP σ H0 tNoPart none := fun H Q _ q => q H (Same.refl H)
theorem mkp_some {t : TE} {i : Int} (h : MkE K σ H0 t (.int i)) : MkP σ H0 (tPart t) (some i) := fun H Q s q => h H _ s fun v H' s' d => by
  cases d
  exact ⟨i, rfl, q H' s'⟩
theorem mk_cat {t u : TE} {ds es : List PyData} (h1 : MkE K σ H0 t (.tuple ds)) (h2 : MkE K σ H0 u (.tuple es)) (l : ds.length + es.length ≤ sizeLine) : MkE K σ H0 (tOp (HT2.rCatA K) t u) (.tuple (ds ++ es)) := fun H Q s q =>
  h1 H _ s fun v H1 s1 hv => h2 H1 _ (s.trans s1) fun w H2 s2 hw => by
    have hv2 := s2.dp hv
    obtain ⟨a, xs, rfl, _⟩ : ∃ (a : Addr) (xs : List V), v = .ref a ∧ SqT K H2 a xs := by
      cases hv2 with
      | tup h1 h2 => exact ⟨_, _, rfl, h1⟩
    obtain ⟨b, ys, rfl, _⟩ : ∃ (a : Addr) (xs : List V), w = .ref a ∧ SqT K H2 a xs := by
      cases hw with
      | tup h1 h2 => exact ⟨_, _, rfl, h1⟩
    exact cat_dp hv2 hw l fun p H3 s3 h3 => q _ H3 ((s1.trans s2).trans s3) h3
theorem mk_sl {t : TE} {tl th : TO} {ds : List PyData} {lo hi : Option Int} (h : MkE K σ H0 t (.tuple ds)) (hl : MkP σ H0 tl lo) (hh : MkP σ H0 th hi) : MkE K σ H0 (tSl (HT2.rSlA K) t tl th) (.tuple (cutG ds lo hi)) := fun H Q s q =>
  h H _ s fun v H1 s1 hv => hl H1 _ (s.trans s1) fun H2 s2 => hh H2 _ ((s.trans s1).trans s2) fun H3 s3 => by
    have hv3 := (s2.trans s3).dp hv
    have s03 := (s1.trans s2).trans s3
    cases hv3 with
    | @tup a xs _ h1 h2 =>
      refine ⟨_, _, rfl, h1, fun e => ?_, fun _ p np => ?_⟩
      · refine q _ H3 s03 (.tup h1 ?_)
        have : cutG ds lo hi = ds := by
          unfold cutG
          rw [← dpAll_len h2, e.1, e.2, dpAll_len h2]
          simp
        rw [this]
        exact h2
      · have sp := same_upd (o := .tup (cutV xs lo hi)) np
        exact q _ _ (s03.trans sp) (.tup (stt upd_same) (sp.dpAll (dpAll_cut h2 lo hi)))
theorem mk_add {t u : TE} {i j : Int} (h1 : MkE K σ H0 t (.int i)) (h2 : MkE K σ H0 u (.int j)) : MkE K σ H0 (tOp (rI0 fun i j => .int (i + j)) t u) (.int (i + j)) := fun H Q s q =>
  h1 H _ s fun v H1 s1 hv => h2 H1 _ (s.trans s1) fun w H2 s2 hw => by
    cases hv
    cases hw
    exact ⟨i, j, rfl, rfl, q _ H2 (s1.trans s2) (.int _)⟩
theorem mk_sub {t u : TE} {i j : Int} (h1 : MkE K σ H0 t (.int i)) (h2 : MkE K σ H0 u (.int j)) : MkE K σ H0 (tOp (rI0 fun i j => .int (i - j)) t u) (.int (i - j)) := fun H Q s q =>
  h1 H _ s fun v H1 s1 hv => h2 H1 _ (s.trans s1) fun w H2 s2 hw => by
    cases hv
    cases hw
    exact ⟨i, j, rfl, rfl, q _ H2 (s1.trans s2) (.int _)⟩
theorem mk_neg {t : TE} {i : Int} (h1 : MkE K σ H0 t (.int i)) : MkE K σ H0 (tUn (rU fun i => .int (-i)) t) (.int (-i)) := fun H Q s q =>
  h1 H _ s fun v H1 s1 hv => by
    cases hv
    exact ⟨i, rfl, q _ H1 s1 (.int _)⟩
theorem mk_pow {t u : TE} {i j : Int} (h1 : MkE K σ H0 t (.int i)) (h2 : MkE K σ H0 u (.int j)) (c : CPow i j) : MkE K σ H0 (tOp (rI CPow fun i j => .int (i ^ j.toNat)) t u) (.int (i ^ j.toNat)) := fun H Q s q =>
  h1 H _ s fun v H1 s1 hv => h2 H1 _ (s.trans s1) fun w H2 s2 hw => by
    cases hv
    cases hw
    exact ⟨i, j, rfl, rfl, c, q _ H2 (s1.trans s2) (.int _)⟩
theorem mk_ixT {t u : TE} {ds : List PyData} {k : Nat} {d : PyData} (h1 : MkE K σ H0 t (.tuple ds)) (h2 : MkE K σ H0 u (.int (k : Int))) (e : ds[k]? = some d) : MkE K σ H0 (tOp (rIxT K) t u) d := fun H Q s q =>
  h1 H _ s fun v H1 s1 hv => h2 H1 _ (s.trans s1) fun w H2 s2 hw => by
    have hv2 := s2.dp hv
    cases hw
    cases hv2 with
    | tup h3 h4 =>
      obtain ⟨x, ex, hx⟩ := dp_at h4 e
      exact ⟨_, _, _, x, rfl, rfl, h3, atI_nat ex, q _ H2 (s1.trans s2) hx⟩
theorem MkE.run {t : TE} {d : PyData} {Q : VK} (h : MkE K σ H0 t d) (q : ∀ v H', Same H0 H' → Dp K H' v d → Q v H') : t σ H0 Q := h H0 Q (Same.refl H0) q
/-! ### with new lists and empty dicts -/
def MkX (K : PySem.W.Frag) (A : Addr → Prop) (σ : L2.St) (H0 : Hp) (t : TE) (d : PyData) : Prop := ∀ (H : Hp) (Q : VK), Same H0 H → (∀ v H', Same H H' → Dx K A H' v d → Q v H') → t σ H Q
def MkXA (K : PySem.W.Frag) (A : Addr → Prop) (σ : L2.St) (H0 : Hp) (t : TA) (ds : List PyData) : Prop := ∀ (H : Hp) (Q : List V → Hp → Prop), Same H0 H → (∀ vs H', Same H H' → DxAll K A H' vs ds → Q vs H') → t σ H Q
theorem mx_of {t : TE} {d : PyData} (ht : tupD d = true) (h : MkE K σ H0 t d) : MkX K A σ H0 t d := fun H Q s q => h H Q s fun v H' s' hd => q v H' s' (Dx.of ht hd)
theorem mx_var {i : Nat} {v : V} {d : PyData} (h : σ[i]? = some (some v)) (hd : Dx K A H0 v d) : MkX K A σ H0 (tVar i) d := fun H Q s q => ⟨v, h, q _ H (Same.refl H) (hd.same s)⟩
theorem mxa_nil : MkXA K A σ H0 tNil [] := fun H Q _ q => q [] H (Same.refl H) .nil
theorem mxa_cons {t : TE} {ta : TA} {d : PyData} {ds : List PyData} (h : MkX K A σ H0 t d) (ha : MkXA K A σ H0 ta ds) : MkXA K A σ H0 (tCons t ta) (d :: ds) := fun H Q s q =>
  h H _ s fun v H1 s1 hv => ha H1 _ (s.trans s1) fun vs H2 s2 hvs => q (v :: vs) H2 (s1.trans s2) (.cons (hv.same s2) hvs)
theorem mx_lst {ta : TA} {ds : List PyData} (hA : ∀ H a, Same H0 H → H a = none → A a) (h : MkXA K A σ H0 ta ds) (hz : ds.length ≤ 1000 := by simp) : MkX K A σ H0 (tLst ta) (.list ds) := fun H Q s q =>
  h H _ s fun vs H1 s1 hvs => ⟨by rw [dxAll_len hvs]; exact Nat.le_of_lt (small1000 hz), fun p np => q (.ref p) _ (s1.trans (same_upd np)) (.lst (hA _ _ (s.trans s1) np) upd_same (hvs.same (same_upd np)))⟩
theorem mx_tup {ta : TA} {ds : List PyData} (h : MkXA K A σ H0 ta ds) (hz : ds.length ≤ 1000 := by simp) : MkX K A σ H0 (tTup ta) (.tuple ds) := fun H Q s q =>
  h H _ s fun vs H1 s1 hvs => ⟨by rw [dxAll_len hvs]; exact Nat.le_of_lt (small1000 hz), fun p np => q (.ref p) _ (s1.trans (same_upd np)) (.tup (stt upd_same) (hvs.same (same_upd np)))⟩
theorem MkX.run {t : TE} {d : PyData} {Q : VK} (h : MkX K A σ H0 t d) (q : ∀ v H', Same H0 H' → Dx K A H' v d → Q v H') : t σ H0 Q := h H0 Q (Same.refl H0) q
/-- a new list of such data -/
theorem runX_lst {ta : TA} {ds : List PyData} {Q : VK} (h : MkXA K A σ H0 ta ds) (q : ∀ p H' vs, H0 p = none → Same H0 H' → H' p = some (.lst vs) → DxAll K A H' vs ds → Q (.ref p) H') (hz : ds.length ≤ 1000 := by simp) : tLst ta σ H0 Q :=
  h H0 _ (Same.refl H0) fun vs H1 s1 hvs => ⟨by rw [dxAll_len hvs]; exact Nat.le_of_lt (small1000 hz), fun p np => q p _ vs (s1.free np) (s1.trans (same_upd np)) upd_same (hvs.same (same_upd np))⟩
/-- a new list of such data: its place is apart from what is in it -/
theorem runX_lst1 {ta : TA} {ds : List PyData} {Q : VK} (h : MkXA K A σ H0 ta ds) (q : ∀ p H1 vs, Same H0 H1 → H1 p = none → DxAll K A H1 vs ds → Q (.ref p) (upd H1 p (.lst vs))) (hz : ds.length ≤ 1000 := by simp) : tLst ta σ H0 Q :=
  h H0 _ (Same.refl H0) fun vs H1 s1 hvs => ⟨by rw [dxAll_len hvs]; exact Nat.le_of_lt (small1000 hz), fun p np => q p H1 vs s1 np hvs⟩
theorem dx_at {H : Hp} : ∀ {xs : List V} {ds : List PyData}, DxAll K A H xs ds → ∀ {i : Nat} {d : PyData}, ds[i]? = some d → ∃ v, xs[i]? = some v ∧ Dx K A H v d
  | _, _, .cons h _, 0, _, e => ⟨_, rfl, by cases e; exact h⟩
  | _, _, .cons _ t, i + 1, _, e => dx_at t (by simpa using e)
  | _, _, .nil, i, _, e => by simp at e
theorem dxAll_app {H : Hp} : ∀ {xs ys : List V} {ds es : List PyData}, DxAll K A H xs ds → DxAll K A H ys es → DxAll K A H (xs ++ ys) (ds ++ es)
  | _, _, _, _, .nil, k => k
  | _, _, _, _, .cons h t, k => .cons h (dxAll_app t k)
end
end HR
/-! x in y: y a list, a tuple, or a dict -/
namespace HO
open PySem PySem.Spec PyProof.Rows L2
section
variable {X : Cx}
def rInAny (K : PySem.W.Frag) : R2 := fun x y H Q => rIn K false x y H Q ∨ ∃ (a : Addr) (o : Option V), y = .ref a ∧ DGet H a x o ∧ Q (.bl o.isSome) H
theorem op_inAny (hu : X.A.units + 1 < cLine) : OpR X (compareOp .In) (rInAny X.K) := by
  intro pins s σ H x y v u Q I rx ry h
  rcases h with h | ⟨a, o, rfl, g, q⟩
  · exact op_in_seq pins s σ H x y v u Q I rx ry h
  · cases ry
    exact d_in hu I g rx fun s' I' => ⟨.bl _, H, I', rfl, q⟩
end
end HO
/-! ==, != and len of an instance whose class says how -/
namespace HC
open PySem
section
open Sem (wp)
open Builtin
variable {prog : Program} {w : World} {A : Around} {E : Value → Shared → Prop} {s : Shared} {K : PySem.W.Frag} {x C f : Addr} {ox : Obj} {od : Option Obj}
theorem len_ownK {h : Heap} {g : Array GenState} {d : Drawn} {t : Nat} {os : OsState} {Q : Value → Shared → Prop}
    (hcall : wpAny (model prog w) A.in1 (callSpecial? (.ref x) "__len__") (fun r s' => ∃ n u, r = some (.int n u) ∧ 0 ≤ n ∧ n < 2 ^ 63 ∧ Q (.int n s'.toks) { s' with toks := s'.toks + 1 }) E ⟨h, g, d, t, os⟩) :
    wpAny (model prog w) A (call (.builtin "len") [.ref x]) Q E ⟨h, g, d, t, os⟩ := by
  refine Calls.call_function_entry kind_len plain_len entry_len (args_len1 _) ?_
  unfold Builtin.«len»
  refine wpAny_bind (m := oneArg "len" _) (wpAny_pure ?_)
  refine wpAny_bind (m := callSpecial? (.ref x) (Str.ofString "__len__")) (wpAny_mono hcall (fun r s' hr => ?_) fun _ _ y => y)
  obtain ⟨n, u, rfl, h0, h1, hq⟩ := hr
  refine wpAny_bind (wpAny_holding (wpAny_pure ?_))
  refine wpAny_bind (wpAny_letGo ?_)
  show wpAny _ _ (if n < 0 then _ else _) _ _ _
  rw [if_neg (by omega)]
  show wpAny _ _ (if n ≥ 2 ^ 63 then _ else _) _ _ _
  rw [if_neg (by omega)]
  exact wpAny_bind (wpAny_mkInt (wpAny_pure ⟨_, rfl, hq⟩))
theorem ifBound_objNe {M : Model} {args : List Value} {Q : Option Value → Shared → Prop} (X : K.In s.heap) (I : PySem.W.InstAt s.heap x ox C od) (hs : PySem.W.findIn K (.ref C) "__ne__" = some (some (.builtin "object.__ne__")))
    (h : wpAny M A (call (.builtin "object.__ne__") (.ref x :: args)) (fun v => Q (some v)) E s) : wpAny M A (callSpecialIfBound? (.ref x) "__ne__" args) Q E s := by
  simp only [callSpecialIfBound?, bindSpecialIfBound?]
  refine wpAny_holding (wpAny_bind (wpAny_bind (wpAny_bind (I.type.here ((PySem.W.looks_findIn X hs).here ?_)))))
  refine wpAny_bind (wpAny_askSetting (wpAny_ite ?_))
  have fin : wpAny M A (call (.builtin "object.__ne__") ([.ref x] ++ args) >>= fun v => pure (some v)) Q E s := wpAny_bind (wpAny_mono h (fun v s' h' => wpAny_pure h') fun _ _ h' => h')
  split
  · exact wpAny_bind (wpAny_of_eq (F.cmp_object.ne.bind _) (wpAny_pure (by exact fin)))
  · exact wpAny_tryCatch (wpAny_bind (wpAny_of_eq (F.cmp_object.ne.bind _) (wpAny_pure (by exact fin))))
theorem objNe_entryK {b : Value} (hu : A.units < cLine) (X : K.In s.heap) (I : PySem.W.InstAt s.heap x ox C od) (hs : PySem.W.findIn K (.ref C) "__eq__" = some (some (.ref f))) (hf : PySem.W.isFn K (.ref f) = true) {Q : Fin → Shared → Prop}
    (hcall : wpAny (model prog w) A (call (.ref f) [.ref x, b]) (fun v s' => ∃ b, v = .bool b ∧ Q (.done (.ret (.bool (!b)))) s') E s) :
    wpAny (model prog w) A (Builtin.«object.__ne__» ⟨[.ref x, b], []⟩) Q E s := by
  unfold Builtin.«object.__ne__»
  repeat (first
    | with_reducible refine wpAny_cRoomFor hu ?_
    | (refine wpAny_bind (m := callSpecialIfBound? (.ref x) (Str.ofString "__eq__") [b])
        (PySem.W.ifBound_K X I hs hf (wpAny_mono hcall (fun r s' hr => by
          obtain ⟨b, rfl, hq⟩ := hr
          repeat (first | exact hq | exact wpAny_pure hq | exact wpAny_truthy_bool hq | (refine wpAny_bind (m := truthy (.bool _)) (wpAny_truthy_bool ?_)) | wp_step)) fun _ _ e => e)))
    | wp_step)
theorem ne_K {b tb : Value} {Q : Value → Shared → Prop} (hu : A.units + 1 < cLine) (X : K.In s.heap) (I : PySem.W.InstAt s.heap x ox C od) (hb : PySem.W.Looks (model prog w) s.heap (typeOf b) tb) (hn : PySem.W.notFirst K C tb = true)
    (hm : PySem.W.mroIn K C (.type "object") = some true) (hne : PySem.W.findIn K (.ref C) "__ne__" = some (some (.builtin "object.__ne__")))
    (hs : PySem.W.findIn K (.ref C) "__eq__" = some (some (.ref f))) (hf : PySem.W.isFn K (.ref f) = true)
    (h : wpAny (model prog w) A.in1 (call (.ref f) [.ref x, b]) (fun v s' => ∃ r, v = .bool r ∧ Q (.bool (!r)) s') E s) : wpAny (model prog w) A (richCompare .NotEq (.ref x) b) Q E s := by
  have one : wpAny (model prog w) A (tryCompare (.ref x) "__ne__" b) (fun r s' => ∃ v, r = some v ∧ Q v s') E s := by
    unfold tryCompare
    refine wpAny_bind (ifBound_objNe X I hne (wpAny_call (codeAny_call_builtin F.cmp_object.ne.plain F.cmpEntry_ne (PySem.W.check_slot F.cmpKind_ne F.cmpSplit_ne (I.type.andThen (PySem.W.looks_mroIn X hm)) (F.cmpArgs_ne _ _)
      (objNe_entryK (A := A.in1) (by show A.units + 1 < cLine; exact hu) X I hs hf (wpAny_mono h (fun v s' hv => ?_) fun _ _ e => e))))))
    obtain ⟨r, rfl, hq⟩ := hv
    first | exact ⟨r, rfl, wpAny_pure ⟨_, rfl, hq⟩⟩ | exact ⟨r, rfl, wpAny_pure (wpAny_pure ⟨_, rfl, hq⟩)⟩ | exact ⟨r, rfl, ⟨_, rfl, hq⟩⟩
  unfold richCompare
  simp only [oneThing_ref]
  refine wpAny_holding (wpAny_bind (wpAny_cRoomFor (by omega) ?_))
  refine wpAny_bind (I.type.here (wpAny_bind (hb.here ?_)))
  split
  · rename_i q
    have e : PySem.W.subIn K tb (.ref C) = some false := by
      rcases Bool.or_eq_true_iff.mp hn with e | e
      · rw [beq_iff_eq.mp e] at q; simp at q
      · exact beq_iff_eq.mp e
    refine wpAny_bind ((PySem.W.looks_subIn X e).here ?_)
    simp only [Bool.false_eq_true, if_false]
    refine wpAny_bind (wpAny_mono one (fun r s' z => ?_) fun _ _ e => e)
    obtain ⟨v, rfl, hq⟩ := z
    exact wpAny_pure hq
  · refine wpAny_bind (wpAny_pure ?_)
    simp only [Bool.false_eq_true, if_false]
    refine wpAny_bind (wpAny_mono one (fun r s' z => ?_) fun _ _ e => e)
    obtain ⟨v, rfl, hq⟩ := z
    exact wpAny_pure hq
theorem sub_tuple : PySem.W.subIn K (.type "tuple") (.ref C) = some false := by
  have e : fastBuiltinMro "tuple" = some [.type "tuple", .type "object"] := by decide +kernel
  show (fastBuiltinMro "tuple").map (·.contains (.ref C)) = some false
  rw [e]
  first
    | rfl
    | simp
end
section
open PySem.Spec PyProof.Rows L2
variable {X : Cx} {CX : CXT} {k : Nat} {f C : Addr} {fd : FuncData} {ps : List Str} {sp : Sp} {E : XK}
/-- len(x) of an instance whose class says how -/
def rLenO (C : Addr) (sp : Sp) (E : XK) : List V → Hp → VK → Prop := fun xs H Q => ∃ (a dx : Addr) (fs : List (Str × V)), xs = [.ref a] ∧ H a = some (.ins C dx fs) ∧ sp [.ref a] H (fun v H' => ∃ n : Nat, v = .int n ∧ n ≤ sizeLine ∧ Q v H') E
theorem call_lenO (hm : Meth X.K C "__len__" f) (F : FnOk X.prog X.w X.K X.mg X.base CX k f fd ps sp) (hr : Room (k + 1) X.A) (hb : Binds X.K fd ps []) (hx : Passes CX X E) : CallR X (.builtin "len") (rLenO C sp E) := by
  intro pins s σ H xs us Q I r h
  obtain ⟨a, dx, fs, rfl, e, q⟩ := h
  obtain ⟨u, rfl, ru⟩ := vals1 r
  obtain rfl : u = Value.ref a := ru
  refine len_ownK ?_
  obtain ⟨mA, O, _⟩ := ins_get I.hok e
  obtain ⟨od, J, _⟩ := O.look
  refine PySem.W.special_fn I.kIn J hm.at_ (beq_iff_eq.mp hm.fn) ?_
  have hl : ([Value.ref a] ++ []).length = ps.length := by
    have := F.len _ _ _ _ q
    exact this
  refine wpAny_call (codeAny_mono (F.run X.A.in1 X.stack s H ⟨[.ref a], []⟩ [.ref a] [.ref a] _ E hr.in1 I.env0.in1 (hb s [.ref a] I.kIn hl) (.cons rfl .nil) q) fun r s' hq => ?_)
  cases r with
  | error e => exact hx pins σ H s e s' I hq
  | ok fl =>
    cases fl with
    | ret u =>
      obtain ⟨v, H', I3, rv, n, ev, hn, q3⟩ := I.after hq
      subst ev
      obtain ⟨t, rfl⟩ := rv
      exact ⟨n, t, rfl, by omega, by have : sizeLine = 2 ^ 24 := rfl; omega, .int n, H', I3.tok _, ⟨_, rfl⟩, q3⟩
    | next => exact False.elim hq
    | brk => exact False.elim hq
    | cont => exact False.elim hq
/-- x == y, x != y of an instance whose class says how, the other one an instance of it or a tuple -/
def rCmpO (K : PySem.W.Frag) (C : Addr) (sp : Sp) (E : XK) (g : Bool → Bool) : R2 := fun x y H Q => ∃ (a dx b : Addr) (fs : List (Str × V)), x = .ref a ∧ H a = some (.ins C dx fs) ∧ y = .ref b ∧ ((∃ dy gs, H b = some (.ins C dy gs)) ∨ ∃ ys, SqT K H b ys) ∧
  sp [.ref a, .ref b] H (fun v H' => ∃ r : Bool, v = .bl r ∧ Q (.bl (g r)) H') E
theorem other_type {pins : List (Addr × Obj)} {σ : L2.St} {H : Hp} {s : Shared} {b : Addr} (I : Inv X pins σ H s) (h : (∃ dy gs, H b = some (.ins C dy gs)) ∨ ∃ ys, SqT X.K H b ys) : ∃ tb, PySem.W.Looks (model X.prog X.w) s.heap (typeOf (.ref b)) tb ∧ PySem.W.notFirst X.K C tb = true := by
  rcases h with ⟨dy, gs, h⟩ | ⟨ys, h⟩
  · obtain ⟨mB, J', _⟩ := ins_get I.hok h
    obtain ⟨od', J', _⟩ := J'.look
    exact ⟨_, J'.type, by simp [PySem.W.notFirst]⟩
  · obtain ⟨its, r, ⟨o, ho, hc, n, hd⟩, z⟩ := I.tuple h
    refine ⟨.type "tuple", (PySem.W.Looks.ld ho).andThen (by rw [hc]; exact .now), ?_⟩
    show (Value.type "tuple" == Value.ref C || PySem.W.subIn X.K (.type "tuple") (.ref C) == some false) = true
    rw [sub_tuple]
    simp
theorem op_eqO (hm : Meth X.K C "__eq__" f) (F : FnOk X.prog X.w X.K X.mg X.base CX k f fd ps sp) (hr : Room k X.A) (hb : Binds X.K fd ps []) (hx : Passes CX X E) : OpR X (compareOp .Eq) (rCmpO X.K C sp E id) := by
  intro pins s σ H x y v u Q I rx ry h
  obtain ⟨a, dx, b, fs, rfl, e, rfl, ho, q⟩ := h
  cases rx
  cases ry
  obtain ⟨mA, O, _⟩ := ins_get I.hok e
  obtain ⟨od, J, _⟩ := O.look
  obtain ⟨tb, l1, l2⟩ := other_type I ho
  obtain ⟨m, hF⟩ := I.fr
  show wpAny (model X.prog X.w) X.A (richCompare .Eq (.ref a) (.ref b)) (EP X pins σ Q) X.xe s
  refine PySem.W.cmp_K (op := .Eq) hr.units0 hF I.ok.mod.kin J l1 l2 hm.at_ hm.fn ?_
  have hl := F.len _ _ _ _ q
  refine wpAny_call (codeAny_mono (F.run X.A X.stack s H ⟨[.ref a, .ref b], []⟩ [.ref a, .ref b] [.ref a, .ref b] _ E hr I.env0 (by
    have := hb s [.ref a, .ref b] I.kIn (by simpa using hl)
    simpa using this) (.cons rfl (.cons rfl .nil)) q) fun r s' hq => ?_)
  cases r with
  | error e => exact hx pins σ H s e s' I hq
  | ok fl =>
    cases fl with
    | ret w =>
      obtain ⟨z, H', I', rz, t, ez, q3⟩ := I.after hq
      subst ez
      cases rz
      exact ⟨.bl t, H', I', rfl, q3⟩
    | next => exact False.elim hq
    | brk => exact False.elim hq
    | cont => exact False.elim hq
theorem op_neO (hm : Meth X.K C "__eq__" f) (ho : PySem.W.mroIn X.K C (.type "object") = some true) (hne : PySem.W.findIn X.K (.ref C) "__ne__" = some (some (.builtin "object.__ne__"))) (F : FnOk X.prog X.w X.K X.mg X.base CX k f fd ps sp) (hr : Room (k + 1) X.A) (hb : Binds X.K fd ps []) (hx : Passes CX X E) : OpR X (compareOp .NotEq) (rCmpO X.K C sp E not) := by
  intro pins s σ H x y v u Q I rx ry h
  obtain ⟨a, dx, b, fs, rfl, e, rfl, hy, q⟩ := h
  cases rx
  cases ry
  obtain ⟨mA, O, _⟩ := ins_get I.hok e
  obtain ⟨od, J, _⟩ := O.look
  obtain ⟨tb, l1, l2⟩ := other_type I hy
  show wpAny (model X.prog X.w) X.A (richCompare .NotEq (.ref a) (.ref b)) (EP X pins σ Q) X.xe s
  refine ne_K (by have := hr.units0; have := hr.in1.units0; exact this) I.kIn J l1 l2 ho hne hm.at_ hm.fn ?_
  have hl := F.len _ _ _ _ q
  refine wpAny_call (codeAny_mono (F.run X.A.in1 X.stack s H ⟨[.ref a, .ref b], []⟩ [.ref a, .ref b] [.ref a, .ref b] _ E hr.in1 I.env0.in1 (by
    have := hb s [.ref a, .ref b] I.kIn (by simpa using hl)
    simpa using this) (.cons rfl (.cons rfl .nil)) q) fun r s' hq => ?_)
  cases r with
  | error e => exact hx pins σ H s e s' I hq
  | ok fl =>
    cases fl with
    | ret w =>
      obtain ⟨z, H', I', rz, t, ez, q3⟩ := I.after hq
      subst ez
      cases rz
      exact ⟨t, rfl, .bl (!t), H', I', rfl, q3⟩
    | next => exact False.elim hq
    | brk => exact False.elim hq
    | cont => exact False.elim hq
/-- what the head tells of a class with its own == -/
structure OwnC (K : PySem.W.Frag) (C : Addr) : Prop where
  ob : PySem.W.mroIn K C (.type "object") = some true
  ne : PySem.W.findIn K (.ref C) "__ne__" = some (some (.builtin "object.__ne__"))
  ha : PySem.W.findIn K (.ref C) "__class__" = some (some (.builtin "object.__class__"))
  hn : PySem.W.specialIn K (.builtin "object.__class__") "__get__" = some (some (.builtin "getset_descriptor.__get__"))
  tk : PySem.W.takesIn K (.builtin "object.__class__") = some true
  tup : PySem.W.kitOne K (.type "tuple") (.ref C) = some false
def neB (K : PySem.W.Frag) (C : Addr) : Bool := decide (PySem.W.mroIn K C (.type "object") = some true) && (decide (PySem.W.findIn K (.ref C) "__ne__" = some (some (.builtin "object.__ne__"))) &&
  (decide (PySem.W.findIn K (.ref C) "__class__" = some (some (.builtin "object.__class__"))) && (decide (PySem.W.specialIn K (.builtin "object.__class__") "__get__" = some (some (.builtin "getset_descriptor.__get__"))) &&
  (decide (PySem.W.takesIn K (.builtin "object.__class__") = some true) && decide (PySem.W.kitOne K (.type "tuple") (.ref C) = some false)))))
theorem neB_ok {K : PySem.W.Frag} {C : Addr} (h : neB K C = true) : OwnC K C := by
  unfold neB at h
  simp only [Bool.and_eq_true, decide_eq_true_eq] at h
  obtain ⟨h1, h2, h3, h4, h5, h6⟩ := h
  exact ⟨h1, h2, h3, h4, h5, h6⟩
end
end HC
/-! == and != of tuples that hold data and dicts -/
namespace HF
open PySem PySem.SeqAt
section
open AutoSeq1 (wpAny_loadPart')
open MeetsSeq MeetsSeq2 MeetsSeq3 SeqRoads2
variable {prog : Program} {w : World}
/-- != of two tuples of one length, all alike -/
theorem tupNe_alike (l b : Addr) (xs ys : Array Value) (n n2 : Nat) (dd dd2 : Option Addr) (sl sl2 : Array (Option Value)) (hsz : xs.size = ys.size) :
    MeetsIn prog w (Builtin.«tuple.__ne__» ⟨[.ref l, .ref b], []⟩)
      (fun A R s => s.heap.get? l = some { cls := .type "tuple", dict := dd, data := .seq xs n, slots := sl } ∧ s.heap.get? b = some { cls := .type "tuple", dict := dd2, data := .seq ys n2, slots := sl2 } ∧
        (∀ j (h1 : j < xs.size) (h2 : j < ys.size), EqIn prog w A.in1 s xs[j] ys[j] true) ∧ R (.ok (.ret (.bool false))) s) :=
  .of_wp fun A R s h => by
    obtain ⟨hp, g, d, tk, os⟩ := s
    obtain ⟨hl, hb, he, h⟩ := h
    have f2 := AutoSeq1.sub_tuple_tuple
    have hZ : (xs.toList.zip ys.toList).length = xs.size := by simp [hsz]
    wp_walk using wpAny_loadPart' hl, wpAny_loadPart' hb, wpAny_forIn_list _ (fun rest b s' => b.1 = none ∧ s' = ⟨hp, g, d, tk, os⟩ ∧ ∃ i, rest = (xs.toList.zip ys.toList).drop i) _
    case turn =>
      rintro ⟨y, x⟩ rest b s' ⟨hb', rfl, i, hz⟩
      have hlt : i < (xs.toList.zip ys.toList).length := by
        rcases Nat.lt_or_ge i (xs.toList.zip ys.toList).length with h' | h'
        · exact h'
        · rw [List.drop_of_length_le h'] at hz; cases hz
      have h1 : i < xs.size := hZ ▸ hlt
      have h2 : i < ys.size := hsz ▸ h1
      rw [List.drop_eq_getElem_cons hlt] at hz
      injection hz with hyx hrest
      have hy : y = xs[i] := by have := congrArg Prod.fst hyx; simpa using this
      have hx : x = ys[i] := by have := congrArg Prod.snd hyx; simpa using this
      subst hy hx
      refine wpAny_bind (he i h1 h2 _ _ ?_)
      wp_walk
      exact ⟨rfl, rfl, i + 1, hrest⟩
    case fin =>
      rintro ⟨b1, b2⟩ s' ⟨hb', rfl, i, hz⟩
      simp only at hb'
      subst hb'
      wp_walk
      exact ⟨_, rfl, by simpa [Builtin.Tuple.tupleCompareSizes, bne, hsz] using h⟩
    case h =>
      exact ⟨rfl, rfl, 0, rfl⟩
theorem rcNe_alike {A : Around} {s : Shared} {E : Value → Shared → Prop} {l b : Addr} {xs ys : Array Value} {Q : Value → Shared → Prop} (hl : s.heap.IsTuple l xs) (hb : s.heap.IsTuple b ys) (hsz : xs.size = ys.size) (hu : A.units < cLine)
    (he : ∀ j (h1 : j < xs.size) (h2 : j < ys.size), EqIn prog w A.in1 s xs[j] ys[j] true) (h : Q (.bool false) s) : wpAny (model prog w) A (richCompare .NotEq (.ref l) (.ref b)) Q E s := by
  obtain ⟨⟨cls, dd, data, sl⟩, ho, hc, n, hd⟩ := id hl
  obtain ⟨⟨cls2, dd2, data2, sl2⟩, ho2, hc2, n2, hd2⟩ := id hb
  simp only at hc hd hc2 hd2
  subst hc hd hc2 hd2
  exact wpAny_richCompare_same_room (T := "tuple") (op := .NotEq) ⟨_, ho, rfl⟩ ⟨_, ho2, rfl⟩ PySem.F.slot_tuple_ne (call_meetsIn PySem.F.slot_tuple_ne ⟨_, ho, rfl⟩ PySem.F.entry_tuple_ne (PySem.F.args_tuple_ne_2 _ _) (tupNe_alike l b xs ys n n2 dd dd2 sl sl2 hsz)
    ⟨ho, ho2, he, show Value.bool false ≠ Value.notImplemented ∧ Q (.bool false) s from ⟨(fun x => nomatch x), h⟩⟩) hu
end
section
open PySem.Spec PyProof.Rows L2
variable {X : Cx}
theorem u70 {k : Nat} {A : Around} (r : Room k A) : A.units + 70 < cLine := by have := r.un; omega
def dictEq (ks ls : List (Key × V)) : Bool := ks.length == ls.length && ks.all fun p => match valV ls p.1 with
  | some y => eqV p.2 y
  | none => false
/-- data, or two dicts with flat values: alike or not -/
inductive CmpV (K : PySem.W.Frag) (H : Hp) : V → V → Bool → Prop
  | data {x y : V} {d e : PyData} : Dp K H x d → Dp K H y e → SeqAt.shaped d = true → SeqAt.shaped e = true → CmpV K H x y (PyData.eqv d e)
  | dict {a b : Addr} {ks ls : List (Key × V)} : a ≠ b → H a = some (.dK ks) → H b = some (.dK ls) → (∀ p ∈ ks, flatV p.2 = true) → (∀ p ∈ ls, flatV p.2 = true) → CmpV K H (.ref a) (.ref b) (dictEq ks ls)
theorem hits_any {prog : Program} {w : World} {A : Around} {s : Shared} {ls : List (Key × V)} {vb : List (Key × Value)} (rb : KV ls vb) (fl : ∀ p ∈ ls, flatV p.2 = true) : ∀ {ks : List (Key × V)} {va : List (Key × Value)}, KV ks va → (∀ p ∈ ks, flatV p.2 = true) →
    PySem.W.KeqHitsIn prog w A s vb va (ks.all fun p => match valV ls p.1 with
      | some y => eqV p.2 y
      | none => false) := by
  intro ks va ra
  unfold KV at ra
  induction ra with
  | nil => intro _; exact .nil
  | @cons p q ps qs h t ih =>
    intro hp
    obtain ⟨h1, h2⟩ := h
    obtain ⟨k, v⟩ := q
    have h1 : p.1 = k := h1
    have h2 : RelV p.2 v := h2
    have hv := rb.val k
    rw [List.all_cons, h1]
    cases e : valV ls k with
    | none =>
      rw [e] at hv
      have : valueAt vb k = none := by
        cases e2 : valueAt vb k with
        | none => rfl
        | some y => rw [e2] at hv; exact hv.elim
      rw [Bool.false_and]
      exact .miss this
    | some y =>
      rw [e] at hv
      obtain ⟨u, hu, ru⟩ := RelO.some_of hv
      have fy : flatV y = true := by
        obtain ⟨p', hp', e2⟩ := Option.map_eq_some_iff.mp e
        exact e2 ▸ fl p' (List.mem_of_find?_eq_some hp')
      exact .hit hu ((eqAt_V h2 ru (hp p (List.mem_cons_self ..)) fy).inModel prog w) (ih fun p' hm => hp p' (List.mem_cons_of_mem _ hm))
theorem CmpV.eqIn {pins : List (Addr × Obj)} {σ : L2.St} {H : Hp} {s : Shared} (I : Inv X pins σ H s) {x y : V} {u v : Value} {b : Bool} (h : CmpV X.K H x y b) (rx : RelV x u) (ry : RelV y v) {A : Around} (hu : A.units + 66 < cLine) : EqIn X.prog X.w A s u v b := by
  cases h with
  | data hd he sd se =>
    obtain ⟨as, r1⟩ := Dp.reads I _ _ _ hd rx
    obtain ⟨bs, r2⟩ := Dp.reads I _ _ _ he ry
    exact (SeqAt.EqAt.of_in1 (PySem.W.keq_at r1 r2 sd se (by show A.units + 1 + 64 < cLine; omega))).inModel _ _
  | @dict a b ks ls hne ha hb fk fl =>
    obtain rfl : u = Value.ref a := rx
    obtain rfl : v = Value.ref b := ry
    obtain ⟨_, ya, va, ra, da⟩ := (show ObjOk X.prog X.w H s.heap a (.dK ks) from I.hok a _ ha)
    obtain ⟨_, yb, vb, rb, db⟩ := (show ObjOk X.prog X.w H s.heap b (.dK ls) from I.hok b _ hb)
    refine SeqAt.EqIn.of_refs hne fun E Q hq => ?_
    have e : (va.length == vb.length) = (ks.length == ls.length) := by rw [ra.length, rb.length]
    exact PySem.W.keq_eqIn (knd := mixKind X.prog X.w) ya yb da db (by omega) (fun _ => hits_any rb fl ra fk) (by rw [e]; exact hq)
/-- == of two tuples of one length, item by item -/
def rEqM (K : PySem.W.Frag) : R2 := fun x y H Q => ∃ (a b : Addr) (xs ys : List V) (es : List Bool), x = .ref a ∧ y = .ref b ∧ SqT K H a xs ∧ SqT K H b ys ∧ xs.length = es.length ∧ ys.length = es.length ∧
  (∀ (j : Nat) x y e, xs[j]? = some x → ys[j]? = some y → es[j]? = some e → CmpV K H x y e) ∧ Q (.bl (es.all id)) H
theorem all_range (es : List Bool) : ((List.range es.length).all fun j => es.getD j true) = es.all id := by
  induction es with
  | nil => rfl
  | cons e es ih =>
    rw [List.length_cons, List.range_succ_eq_map, List.all_cons, List.all_map, List.all_cons, ← ih]
    rfl
theorem op_eqM (hu : X.A.units + 70 < cLine) : OpR X (compareOp .Eq) (rEqM X.K) := by
  intro pins s σ H x y v u Q I rx ry h
  obtain ⟨a, b, xs, ys, es, rfl, rfl, ha, hb, l1, l2, hc, q⟩ := h
  obtain rfl : v = Value.ref a := rx
  obtain rfl : u = Value.ref b := ry
  obtain ⟨its, r, e, z⟩ := I.tuple ha
  obtain ⟨its2, r2, e2, z2⟩ := I.tuple hb
  have n1 : its.toArray.size = es.length := by rw [List.size_toArray, ← r.length]; exact l1
  have n2 : its2.toArray.size = es.length := by rw [List.size_toArray, ← r2.length]; exact l2
  show wpAny (model X.prog X.w) X.A (richCompare .Eq (.ref a) (.ref b)) (EP X pins σ Q) X.xe s
  refine SeqAt.rcIn_tuples (e := fun j => es.getD j true) e e2 (by omega) (fun j h1 h2 => ?_) ?_
  · have k1 : j < xs.length := by omega
    have k2 : j < ys.length := by omega
    have k3 : j < es.length := by omega
    obtain ⟨u1, hu1, ru1⟩ := r.get (List.getElem?_eq_getElem k1)
    obtain ⟨v1, hv1, rv1⟩ := r2.get (List.getElem?_eq_getElem k2)
    have g1 : its.toArray[j] = u1 := by
      have h1' : j < its.length := by simpa using h1
      rw [List.getElem?_eq_getElem h1'] at hu1
      simpa using Option.some.inj hu1
    have g2 : its2.toArray[j] = v1 := by
      have h2' : j < its2.length := by simpa using h2
      rw [List.getElem?_eq_getElem h2'] at hv1
      simpa using Option.some.inj hv1
    rw [g1, g2]
    have e3 : es.getD j true = es[j] := by rw [List.getD_eq_getElem?_getD, List.getElem?_eq_getElem k3]; rfl
    show EqIn _ _ _ _ _ _ (es.getD j true)
    rw [e3]
    exact (hc j _ _ _ (List.getElem?_eq_getElem k1) (List.getElem?_eq_getElem k2) (List.getElem?_eq_getElem k3)).eqIn I ru1 rv1 (by show X.A.units + 1 + 66 < cLine; omega)
  · rw [n1, n2, Nat.min_self, all_range, beq_self_eq_true, Bool.and_true]
    exact ⟨.bl _, H, I, rfl, q⟩
/-- != of two tuples that are alike -/
def rNeM (K : PySem.W.Frag) : R2 := fun x y H Q => ∃ (a b : Addr) (xs ys : List V), x = .ref a ∧ y = .ref b ∧ SqT K H a xs ∧ SqT K H b ys ∧ xs.length = ys.length ∧
  (∀ (j : Nat) x y, xs[j]? = some x → ys[j]? = some y → CmpV K H x y true) ∧ Q (.bl false) H
theorem op_neM (hu : X.A.units + 70 < cLine) : OpR X (compareOp .NotEq) (rNeM X.K) := by
  intro pins s σ H x y v u Q I rx ry h
  obtain ⟨a, b, xs, ys, rfl, rfl, ha, hb, l1, hc, q⟩ := h
  obtain rfl : v = Value.ref a := rx
  obtain rfl : u = Value.ref b := ry
  obtain ⟨its, r, e, z⟩ := I.tuple ha
  obtain ⟨its2, r2, e2, z2⟩ := I.tuple hb
  have n1 : its.toArray.size = xs.length := by rw [List.size_toArray, ← r.length]
  have n2 : its2.toArray.size = ys.length := by rw [List.size_toArray, ← r2.length]
  show wpAny (model X.prog X.w) X.A (richCompare .NotEq (.ref a) (.ref b)) (EP X pins σ Q) X.xe s
  refine rcNe_alike e e2 (by omega) (by omega) (fun j h1 h2 => ?_) ⟨.bl _, H, I, rfl, q⟩
  have k1 : j < xs.length := by omega
  have k2 : j < ys.length := by omega
  obtain ⟨u1, hu1, ru1⟩ := r.get (List.getElem?_eq_getElem k1)
  obtain ⟨v1, hv1, rv1⟩ := r2.get (List.getElem?_eq_getElem k2)
  have g1 : its.toArray[j] = u1 := by
    have h1' : j < its.length := by simpa using h1
    rw [List.getElem?_eq_getElem h1'] at hu1
    simpa using Option.some.inj hu1
  have g2 : its2.toArray[j] = v1 := by
    have h2' : j < its2.length := by simpa using h2
    rw [List.getElem?_eq_getElem h2'] at hv1
    simpa using Option.some.inj hv1
  rw [g1, g2]
  exact (hc j _ _ (List.getElem?_eq_getElem k1) (List.getElem?_eq_getElem k2)).eqIn I ru1 rv1 (by show X.A.units + 1 + 66 < cLine; omega)
end
end HF
/-! Own rules over the hand layer: l.count(x) of data; l[i] op= e. -/
namespace HAB
open PySem PySem.Spec PyProof.Rows L2
section
variable {X : Cx}
def rCountD (K : PySem.W.Frag) : V → List V → Hp → VK → Prop := fun x xs H Q => ∃ (a : Addr) (y : V) (d : PyData) (ds : List PyData), x = V.ref a ∧ xs = [y] ∧ Dp K H (V.ref a) (.list ds) ∧ Dp K H y d ∧
  SeqAt.shaped (.list ds) = true ∧ SeqAt.shaped d = true ∧ Q (.int (ds.countP (fun z => PyData.eqv z d) : Nat)) H
theorem mt_countD (hu : X.A.units + 65 < cLine) : MtR X "list.count" (rCountD X.K) := by
  intro pins s σ H x xs v us Q I rx rxs h
  obtain ⟨a, y, d, ds, rfl, rfl, hl, hy, sl, sd, q⟩ := h
  cases rx
  cases rxs with
  | cons ry rt =>
    rename_i uy ut
    cases rt
    obtain ⟨bs, r1⟩ := Dp.reads I d y uy hy ry
    have hxs : PyData.canLayAll0 ds = true := SeqAt.canLay_of_shaped sl
    have hroom : X.A.units + 1 + min (PyData.depthAll ds) d.depth < cLine := room_in_shaped sd hu
    cases hl with
    | lst hs ha =>
      obtain ⟨its, rv, ⟨⟨cls, dd, data, sls⟩, n, ho, hc, hdn, hdt⟩, hlen⟩ := I.list hs
      simp only at hc hdt
      subst hc hdt
      obtain ⟨as, h4⟩ := Dp.readsAll I ds _ its ha rv
      have hmap : its.map (SeqAt.readOf s.heap) = ds := SeqAt.readsAll_map ds its as hxs h4
      refine call_meets PySem.F.slot_list_count ⟨_, ho, rfl⟩ PySem.F.entry_list_count (PySem.F.args_list_count_2 _ _)
        (SeqAt.list_countAt a its.toArray n dd sls uy (fun u => PyData.eqv (SeqAt.readOf s.heap u) d)) ⟨ho, SeqAt.items_eqAt (vs := its.toArray) (show ReadsAll s.heap its.toArray.toList ds as from h4) r1 hxs (SeqAt.canLay_of_shaped sd) hroom, ?_⟩
      have ec : its.toArray.toList.countP (fun u => PyData.eqv (SeqAt.readOf s.heap u) d) = ds.countP (fun z => PyData.eqv z d) := by
        rw [← hmap, List.countP_map]
        rfl
      refine ⟨.int (ds.countP (fun z => PyData.eqv z d) : Nat), H, I.tok _, ⟨s.toks, ?_⟩, q⟩
      rw [ec]
/-- l[i], by values, i not below 0 -/
def rGetL (K : PySem.W.Frag) : V → V → Hp → VK → Prop := fun x y H Q => ∃ (p : Addr) (xs : List V) (i : Nat) (v : V), x = .ref p ∧ y = .int (i : Int) ∧ SqL K H p xs ∧ xs[i]? = some v ∧ Q v H
theorem get_list : PGet X (rGetL X.K) := by
  intro pins s σ H x y v u Q I rx ry h
  obtain ⟨p, xs, i, z, rfl, rfl, hq, he, q⟩ := h
  cases rx
  obtain ⟨t, rfl⟩ := ry
  obtain ⟨its, r, pl, hz⟩ := I.list hq
  obtain ⟨w, ew, rw'⟩ := r.get he
  have hl := r.length
  have hn := line63
  have hi : i < its.length := (List.getElem?_eq_some_iff.mp ew).1
  have fin : EP X pins σ Q w s := ⟨z, H, I, rw', q⟩
  exact wpAny_getItem_list pl.isList (by omega) (by omega) (by rw [Int.toNat_natCast]; simpa using ew) fin
end
section
variable {X : Cx} {K : PySem.W.Frag} {o e : Expr} {es : List Expr} {to : TE} {t : TA} {name : Str} {apos cpos : Pos} {T id : String} {r : V → List V → Hp → VK → Prop}
/-- .. within a comprehension: the kit's K is named -/
theorem pe_bmK (hK : X.K = K) (pa : PlainAttrs T) (slot : Slot T name id) (hty : typeOf (.builtin id) = pure (.type "method_descriptor")) (hm : MtR X id r) (ho : PE X o to) (ha : PA X (e :: es) t)
    (hbase : attributeBase o name X.env (eval o X.env) = eval o X.env := by rfl)
    (hfew : ((backTo cpos (starEach (e :: es) X.env)).all (fun x => !x.1) && (backToKw cpos (keywordEach [] X.env)).all (fun x => x.1.isSome)
      && decide ((e :: es).length + ([] : List Keyword).length + (if ([] : List Keyword).isEmpty then 0 else 1) < 30)) = true := by rfl)
    (hline : (apos.endLine == cpos.line) = true := by rfl) (hs : starEach (e :: es) X.env = (false, eval e X.env) :: starEach es X.env := by rfl) (hplain : (backTo cpos (starEach es X.env)).any (·.1) = false := by rfl) :
    PE X (.Call (.Attribute o name apos) (e :: es) [] cpos) (tBM K T r to t) := hK ▸ pe_bm pa slot hty hm ho ha hbase hfew hline hs hplain
end
end HAB
/-! Own rules over the hand layer: sorted of a tuple of data; set(a tuple of texts) == {a text}. -/
namespace HAC
open PySem PySem.Spec PyProof.Rows L2 HX
section
variable {prog : Program} {w : World} {A : Around} {E : Value → Shared → Prop} {s : Shared}
theorem collect_tup {l : Addr} {vs : List Value} {Q : List Value → Shared → Prop} (hl : IsTup s.heap l vs.toArray)
    (h : Q vs { s with heap := (s.heap.push (seqObj "list" #[] 0)).update s.heap.objs.size (Obj.mapSeq (· ++ vs.toArray)) }) (hsz : vs.length ≤ sizeLine) :
    wpAny (model prog w) A (collect (.ref l)) Q E s := by
  obtain ⟨o, ho, hc, n, hd⟩ := id hl
  unfold collect
  refine wpAny_bind (wpAny_runValue (codeAny_builtin entry_proto_collect' ?_))
  show wpAny _ _ (do again (.builtin "list.__iadd__" ⟨[← newList [], .ref l], []⟩)) _ _ s
  refine wpAny_bind (wpAny_newList (wpAny_pure ⟨Code.quiet_builtin _ (by decide +kernel), codeAny_builtin entry_list_iadd' ?_⟩))
  show wpAny _ _ (Builtin.List.listExtendWith (.ref s.heap.objs.size) (.ref l) (.ref s.heap.objs.size)) _ _ { s with heap := s.heap.push (seqObj "list" #[] 0) }
  unfold Builtin.List.listExtendWith
  have ho' : (s.heap.push (seqObj "list" #[] 0)).get? l = some o := Heap.get?_push_of_some _ ho
  refine wpAny_bind (wpAny_typeOf (T := "tuple") ⟨o, ho', hc⟩ ?_)
  have ht : (Value.type "tuple" == Value.type "tuple") = true := by rfl
  rw [if_pos (by rw [ht]; simp)]
  refine wpAny_bind (listItems_at ho' hd ?_)
  refine wpAny_bind (listItems_at (xs := #[]) (n := 0) (Heap.get?_push_size _ rfl) rfl ?_)
  rw [if_neg (by simp)]
  refine wpAny_bind (listUpdate_at (xs := #[]) (n := 0) (Heap.get?_push_size _ rfl) rfl ?_ (Nat.zero_le _) (by show (#[] ++ vs.toArray).size ≤ sizeLine + 1; simp only [Array.size_append, List.size_toArray, List.length_nil]; omega))
  refine wpAny_pure ?_
  show wpAny (model prog w) A (do
      let o ← load s.heap.objs.size
      match o.data with
      | .seq xs _ => pure xs.toList
      | _ => unsupported "internal:collect") Q E { s with heap := (s.heap.push (seqObj "list" #[] 0)).update s.heap.objs.size (Obj.mapSeq (· ++ vs.toArray)) }
  refine wpAny_bind (wpAny_load (get?_update_seq (Heap.get?_push_size _ rfl) _) ?_)
  show wpAny _ _ (pure ((#[] : Array Value) ++ vs.toArray).toList) Q E _
  rw [show ((#[] : Array Value) ++ vs.toArray).toList = vs by simp]
  exact wpAny_pure h
/-- sorted(t), t a tuple: a new list -/
theorem sortedT_of_sort {l : Addr} {vs : List Value} {Q : Value → Shared → Prop} (hl : IsTup s.heap l vs.toArray) (hL : vs.length ≤ sizeLine)
    (body : ∀ E' : Value → Shared → Prop, wpAny (model prog w) A.in1.in1 (Builtin.«list.sort» ⟨[.ref (s.heap.objs.size + 1)], []⟩) (fun f s' => f = .done (.ret .none) ∧ Q (.ref (s.heap.objs.size + 1)) s') E' { s with heap := PySem.W.copyHeap s.heap vs }) :
    wpAny (model prog w) A (call (.builtin "sorted") [.ref l] []) Q E s := by
  refine PySem.Calls.call_function_entry kind_sorted plain_sorted entry_sorted (args_sorted1 _) ?_
  unfold Builtin.«sorted»
  refine wpAny_bind (m := checkCount "sorted" 1 1 _) (wpAny_pure ?_)
  refine wpAny_bind (collect_tup hl ?_ hL)
  refine wpAny_bind (wpAny_newList ?_ hL)
  have hsz : ((s.heap.push (seqObj "list" #[] 0)).update s.heap.objs.size (Obj.mapSeq (· ++ vs.toArray))).objs.size = s.heap.objs.size + 1 := by
    rw [Heap.size_update, size_push']
  show wpAny _ _ _ _ _ { s with heap := PySem.W.copyHeap s.heap vs }
  rw [hsz]
  refine wpAny_bind (wpAny_holding (wpAny_call_entry slot_list_sort ⟨_, PySem.W.copyHeap_at s.heap vs, rfl⟩ entry_list_sort ?body (args_list_sort _)))
  case body =>
    show wpAny (model prog w) A.in1.in1 (Builtin.«list.sort» ⟨[.ref (s.heap.objs.size + 1)], []⟩) _ _ _
    refine wpAny_mono (body _) (fun f s' hf => ?_) fun _ _ e => e
    obtain ⟨rfl, hq⟩ := hf
    exact ⟨_, rfl, wpAny_pure ⟨_, rfl, hq⟩⟩
open PySem.W in
theorem sortedT_data {β : Type} {vs : List Value} {bs : List β} {enc : β → PyData} {R : Value → β → Prop} {l : Addr} {Q : Value → Shared → Prop} (hl : IsTup s.heap l vs.toArray) (e : EachIs R vs bs) (er : EachIs (fun v b => ∃ as, Reads s.heap v (enc b) as) vs bs) (hal : AllAlike (bs.map enc)) (hk : Sortable (bs.map enc)) (hL : bs.length ≤ sizeLine)
    (hu : ∀ b, b ∈ bs → A.units + 2 + (enc b).depth < cLine) (h : ∀ out, out.length = bs.length → EachIs R out (bs.mergeSort (dataLe false enc)) → Q (.ref (s.heap.objs.size + 1)) { s with heap := sortedAll s.heap vs (List.toArray out) }) :
    wpAny (model prog w) A (call (.builtin "sorted") [.ref l]) Q E s := by
  have er' : EachIs (fun v b => ∃ as, Reads (sortingHeap (copyHeap s.heap vs) (s.heap.objs.size + 1) vs) v (enc b) as) vs bs := er.mono fun _ _ ⟨as, r⟩ => ⟨as, PyProof.Rows.Reads.keeps (fun _ _ => sorting_copy_old) r⟩
  have hLv : vs.length ≤ sizeLine := by rw [e.length]; exact hL
  exact sortedT_of_sort hl hLv fun _ => list_sort_vals (s := { s with heap := copyHeap s.heap vs }) (copyHeap_at s.heap vs) (SortsAt.data (s := { s with heap := sortingHeap (copyHeap s.heap vs) (s.heap.objs.size + 1) vs }) (each_map (R := fun v d => ∃ as, Reads (sortingHeap (copyHeap s.heap vs) (s.heap.objs.size + 1) vs) v d as) enc er') hal hk (bound_map hu)) hLv
    ⟨rfl, h _ (by rw [sortVals_length false rfl]; exact e.length) (sortVals_data false e er' hal)⟩
end
section
variable {X : Cx}
def rSortDT (K : PySem.W.Frag) : List V → Hp → VK → Prop := fun vs H Q => ∃ (a : Addr) (xs : List V) (ds : List PyData), vs = [V.ref a] ∧ SqT K H a xs ∧ DpAll K H xs ds ∧ PySem.W.AllAlike ds ∧ PySem.W.Sortable ds ∧ (∀ d ∈ ds, d.depth ≤ 60) ∧
  ∀ p, H p = none → Q (.ref p) (upd H p (.lst (sortD xs ds)))
theorem cr_sortDT (hu : X.A.units + 64 < cLine) : CallR X (.builtin "sorted") (rSortDT X.K) := by
  intro pins s σ H vs us Q I r h
  obtain ⟨a, xs, ds, rfl, hs, hd, hal, hk, hdep, q⟩ := h
  obtain ⟨its, rv, hl, hz⟩ := I.tuple hs
  rw [Vals.ref1 r]
  have el := dpAll_len hd
  have ez : (xs.zip ds).length = xs.length := by rw [List.length_zip, el, Nat.min_self]
  have e2 : (xs.zip ds).map (fun b : V × PyData => b.2) = ds := zip_snd el
  refine sortedT_data (enc := fun b : V × PyData => b.2) hl (each_of_vals rv el) (reads_each I rv hd) (by rw [e2]; exact hal) (by rw [e2]; exact hk) (by rw [ez]; exact hz) (fun b hb => ?_) fun out ho eo => ?_
  · have hb2 : b.2 ∈ ds := by rw [← e2]; exact List.mem_map.mpr ⟨b, hb, rfl⟩
    have := hdep _ hb2
    omega
  · obtain ⟨c, he⟩ := PyProof.Rows.sortedAll_at s.heap its out.toArray
    have hlen : (sortD xs ds).length ≤ sizeLine := by rw [(sortD_perm el).length_eq]; exact hz
    exact ⟨.ref _, upd H (s.heap.objs.size + 1) (.lst (sortD xs ds)), I.laid (t' := s.toks) (fun _ _ => PyProof.Rows.sortedAll_old) (Nat.le_succ _) ⟨hlen, out, c, vals_of_each eo, he⟩, rfl, q _ (I.hok.fresh (Nat.le_succ _))⟩
end
section
variable {prog : Program} {w : World} {A : Around} {E : Value → Shared → Prop} {s : Shared}
theorem entry_set_eq : entryFor table "set.__eq__" = some Builtin.«frozenset.__eq__» :=
  entryFor_alias (id' := "frozenset.__eq__") (by kernel_rfl) rfl (by decide +kernel) (by kernel_rfl)
theorem rc_set1 {a b : Addr} {S : Str → Bool} {n : Nat} {z : Str} {Q : Value → Shared → Prop} (ha : s.heap.SetOf (strKind prog w) a S n) (hb : s.heap.SetOf (strKind prog w) b (fun k => decide (k = z)) 1) (hu : A.units < cLine) (h : Q (.bool (decide (n = 1) && S z)) s) :
    wpAny (model prog w) A (richCompare .Eq (.ref a) (.ref b)) Q E s := by
  have hTa := ha.typeIs
  have hTb := hb.typeIs
  refine wpAny_richCompare_same_room (op := .Eq) hTa hTb PySem.F.slot_set_eq (wpAny_call_entry PySem.F.slot_set_eq hTa entry_set_eq ?_ (PySem.F.args_set_eq_2 _ _)) hu
  obtain ⟨oa, ea, epa, ta, hoa, hexa, hda, hela, hmema, hba, hfa, hna⟩ := id ha
  obtain ⟨ob, eb, epb, tb, hob, hexb, hdb, helb, hmemb, hbb, hfb, hnb⟩ := id hb
  show wpAny _ _ (Builtin.Frozenset.slot1 "__eq__" ⟨[.ref a, .ref b], []⟩ >>= _) _ _ s
  refine wpAny_bind ?_
  unfold Builtin.Frozenset.slot1 slotArgs
  simp only [List.isEmpty_nil, Bool.not_true, Bool.false_eq_true, ↓reduceIte, bind_assoc, List.length_cons, List.length_nil, bne_self_eq_false]
  refine wpAny_bind (wpAny_pure ?_)
  dsimp only
  refine wpAny_pure ?_
  dsimp only
  refine wpAny_bind ?_
  unfold Builtin.Frozenset.isAnySet
  show wpAny _ _ (isInstance (Value.ref b) (Value.type "set") >>= _) _ _ _
  refine wpAny_bind (wpAny_isInstance hTb PySem.F.sub_set_set (wpAny_pure ?_))
  simp only [Bool.not_true, Bool.false_eq_true, ↓reduceIte]
  unfold Builtin.Frozenset.addrOf Builtin.Frozenset.sizeOf
  refine wpAny_bind (wpAny_pure ?_)
  refine wpAny_bind (wpAny_pure ?_)
  refine wpAny_bind (wpAny_bind (wpAny_setEntries_of hoa hda hfa (wpAny_pure ?_)))
  refine wpAny_bind (wpAny_bind (wpAny_setEntries_of hob hdb hfb (wpAny_pure ?_)))
  rw [hna, hnb]
  by_cases h1 : n = 1
  · subst h1
    rw [decide_eq_true rfl, Bool.true_and] at h
    simp only [bne_self_eq_false, Bool.false_eq_true, ↓reduceIte]
    refine wpAny_bind ?_
    refine wpAny_bind ?_
    show wpAny _ _ (isInstance (Value.ref a) (Value.type "frozenset") >>= _) _ _ _
    refine wpAny_bind (wpAny_isInstance hTa PySem.F.sub_set_frozenset (wpAny_pure ?_))
    simp only [Bool.false_eq_true, ↓reduceIte]
    unfold Builtin.Frozenset.subsetOf Builtin.Frozenset.sizeOf
    refine wpAny_bind (wpAny_bind (wpAny_setEntries_of hoa hda hfa (wpAny_pure ?_)))
    refine wpAny_bind (wpAny_bind (wpAny_setEntries_of hob hdb hfb (wpAny_pure ?_)))
    rw [hna, hnb]
    simp only [gt_iff_lt, Nat.lt_irrefl, ↓reduceIte]
    refine wpAny_bind (wpAny_setEpoch_of hoa hda hfa ?_)
    obtain ⟨e0, rfl⟩ : ∃ e0, ea = #[e0] := Array.size_eq_one_iff.mp hna
    obtain ⟨f0, rfl⟩ : ∃ f0, eb = #[f0] := Array.size_eq_one_iff.mp hnb
    obtain ⟨⟨k0, hk0, hh0⟩, hs0⟩ := hela e0 (by simp)
    obtain ⟨⟨k1, hk1, hh1⟩, hs1⟩ := helb f0 (by simp)
    have ek1 : k1 = z := by
      have := (hmemb k1).mpr ⟨f0, by simp, hk1⟩
      exact of_decide_eq_true this
    have eS : S z = decide (k0 = z) := by
      by_cases e : k0 = z
      · rw [decide_eq_true e, ← e]
        exact (hmema k0).mpr ⟨e0, by simp, hk0⟩
      · rw [decide_eq_false e, ← Bool.not_eq_true, hmema]
        rintro ⟨e', he', hz⟩
        have he' : e' = e0 := by simpa using he'
        rw [he'] at hz
        exact e ((strKind prog w).inj _ _ _ hk0 hz)
    rw [eS] at h
    obtain ⟨h0, x0⟩ := e0
    obtain ⟨h2, x2⟩ := f0
    have hk0 : (strKind prog w).is k0 x0 = true := hk0
    have hk1 : (strKind prog w).is k1 x2 = true := hk1
    have hs0 : x0.scannable = true := hs0
    have hh0 : h0 = (strKind prog w).hash k0 := hh0
    obtain ⟨y0, t0, rfl⟩ : ∃ y t, x0 = Value.str y t := by
      cases x0 with
      | str y t => exact ⟨y, t, rfl⟩
      | _ => cases hk0
    obtain ⟨y1, t1, rfl⟩ : ∃ y t, x2 = Value.str y t := by
      cases x2 with
      | str y t => exact ⟨y, t, rfl⟩
      | _ => cases hk1
    unfold Builtin.Frozenset.walkUnseen
    refine wpAny_bind ?_
    refine wpAny_bind (wpAny_setEntries_of hoa hda hfa ?_)
    refine wpAny_bind (wpAny_setEntries_of hob hdb hfb ?_)
    simp only [List.cons_append, List.nil_append, List.forIn_cons, List.forIn_nil, Builtin.Frozenset.quietEq, pure_bind, Bool.not_true, Bool.false_eq_true, ↓reduceIte]
    refine wpAny_pure ?_
    simp only [List.forIn_cons, List.forIn_nil]
    have hh0 : h0 = (strKind prog w).hash k0 := hh0
    rw [hh0]
    refine wpAny_bind (wpAny_bind (wpAny_bind (wpAny_holding (wpAny_setFind_of hk0 hs0 hb fun r hr => ?_))))
    cases r with
    | none =>
      have e : decide (k0 = z) = false := by rw [← hr]; rfl
      rw [e] at h
      simp only [Option.isNone_none, ↓reduceIte]
      refine wpAny_pure ?_
      refine wpAny_pure ?_
      refine wpAny_pure ?_
      exact wpAny_pure ⟨_, rfl, (fun x => nomatch x), h⟩
    | some i =>
      have e : decide (k0 = z) = true := by rw [← hr]; rfl
      rw [e] at h
      simp only [Option.isNone_some, Bool.false_eq_true, ↓reduceIte]
      unfold Builtin.Frozenset.unchanged
      refine wpAny_bind (wpAny_bind (wpAny_setEpoch_of hoa hda hfa ?_))
      simp only [bne_self_eq_false, Bool.false_eq_true, ↓reduceIte]
      refine wpAny_pure ?_
      refine wpAny_pure ?_
      refine wpAny_pure ?_
      refine wpAny_pure ?_
      exact wpAny_pure ⟨_, rfl, (fun x => nomatch x), h⟩
  · rw [decide_eq_false h1, Bool.false_and] at h
    have e : (n != 1) = true := by simpa using h1
    simp only [e, ↓reduceIte]
    refine wpAny_bind (wpAny_pure ?_)
    exact wpAny_pure ⟨_, rfl, (fun x => nomatch x), h⟩
end
section
variable {prog : Program} {w : World} {A : Around} {E : Value → Shared → Prop} {s : Shared}
set_option maxHeartbeats 3200000 in
theorem set_textsT {l : Addr} {items : Array Value} {xs : List Str} {Q : Value → Shared → Prop} (calm : A.handled = none) (hl : s.heap.IsTuple l items) (hi : PyProof.Rows.StrsAre items.toList xs) (few : xs.length + 1 < scanBound)
    (h : ∀ (h' : Heap) (tk : Nat), HV.At prog w xs s.heap.objs.size xs.length h' → (∀ b o, b < s.heap.objs.size → s.heap.get? b = some o → h'.get? b = some o) → Q (.ref s.heap.objs.size) { s with heap := h', toks := tk }) :
    wpAny (model prog w) A (call (.type "set") [.ref l]) Q E s := by
  have len : xs.length = items.size := by rw [← StrsAre.len_eq hi, Array.length_toList]
  obtain ⟨c, tl, hmro⟩ := PySem.F.called_set.mro
  have hmade := PySem.F.called_set.made
  have hsub := PySem.F.called_set.sub
  have h1 := PySem.F.called_set.notType
  have h2 := PySem.F.called_set.canCreate
  have hct := PySem.F.typeCall_set_1 (.ref l)
  refine wpAny_call (codeAny_of_tree ?_)
  show wpAny _ _ (callAny (.type "set") _) _ _ _
  refine wpAny_pure ⟨Code.quiet_builtin _ (by decide +kernel), codeAny_builtin PySem.F.entry_type_call ?_⟩
  rw [Around.under_plain (weight_type_call_type "set" [.ref l] []) rfl]
  repeat (any_goals (first | assumption | wp_step))
  refine codeAny_mono (code_set_new_1 (.ref l) (E := E) (Q₁ := fun obj s₁ => ∃ led, obj = .ref s.heap.objs.size ∧ s₁ = { s with heap := s.heap.push (HV.bare led) }) fun led => ⟨led, rfl, rfl⟩) fun r s₁ hr => ?_
  rcases r with e | fl
  · exact hr
  cases fl with
  | ret obj =>
    obtain ⟨led, rfl, rfl⟩ := hr
    have hS : (s.heap.push (HV.bare led)).get? s.heap.objs.size = some (HV.bare led) := Heap.get?_push_size _ rfl
    have hT : Shared.TypeIs { s with heap := s.heap.push (HV.bare led) } (.ref s.heap.objs.size) "set" := ⟨_, hS, rfl⟩
    have hli := PySem.F.called_set.init.lookup
    have hbi := PySem.F.called_set.init.bind (.ref s.heap.objs.size)
    repeat (any_goals (first | assumption | wp_step))
    refine codeAny_mono (codeAny_call_builtin (R := wants (fun r s₂ => r = .none ∧ ∃ h' tk, s₂ = { s with heap := h', toks := tk } ∧ HV.At prog w xs s.heap.objs.size xs.length h' ∧ (∀ b o, b < s.heap.objs.size → s.heap.get? b = some o → h'.get? b = some o)) E)
      PySem.F.called_set.init.plain PySem.F.entry_set_init (check_set_init_1 hT ?_)) fun r₂ s₂ hr₂ => ?_
    · obtain ⟨⟨ocls, odict, odata, oslots⟩, hol, hcl, nl, hdl⟩ := hl
      simp only at hcl hdl
      subst hcl; subst hdl
      have hlS : l < s.heap.objs.size := Heap.lt_size hol
      have hol' := Heap.get?_push_of_some (HV.bare led) hol
      have hl1 : (s.heap.push (HV.bare led)).IsTuple l items := ⟨_, hol', rfl, nl, rfl⟩
      have hsls := PySem.F.sub_tuple_set
      have hslf := PySem.F.sub_tuple_frozenset
      have hne : (Value.type "tuple" == Value.type "dict") = false := by decide
      unfold Builtin.«set.__init__» noKeywords Builtin.Frozenset.updateFrom
      generalize hPI : pyIter = PI
      wp_walk
      subst hPI
      refine wpAny_pyIter_tuple hl1 (wpAny_bind (wpAny_runValue ?_))
      have sz : (s.heap.push (HV.bare led)).objs.size = s.heap.objs.size + 1 := Heap.size_push ..
      have calm3 : A.in1.in1.in1.handled = none := by simp [calm]
      have hval : ∀ (i : Nat) (v : Value), items[i]? = some v → ∃ t, v = .str (xs.getD i Str.empty) t := fun i v hv => SS.strs_at hi i v (by rw [Array.getElem?_toList]; exact hv)
      refine HV.loopV (n := items.size) ((Walks.tuple calm3 _ l (by rw [sz]; exact Nat.ne_of_lt (Nat.lt_succ_of_lt hlS)) items).toS) s.heap.objs.size (by rw [sz]; simp only [List.mem_cons, List.not_mem_nil, or_false, not_or]; exact ⟨Nat.ne_of_lt (Nat.lt_succ_self _), Nat.ne_of_gt hlS⟩) xs len (by omega) hval items.size 0 _ (by omega)
        ⟨⟨_, Heap.get?_push_size _ rfl, rfl, rfl⟩, (Heap.IsTuple.push hl1 _)⟩ ?zS ?zR
      case zS =>
        have hget := Heap.get?_push_of_some ({ cls := .type "tuple_iterator", data := .fields #[.ref l, .int 0 0] } : Obj) hS
        exact PyProof.Rows.SetOf_congr ((PyProof.Rows.setObjOf_fresh (knd := PySem.strKind prog w) led).setOf hget (by unfold scanBound; omega)) (fun _ => rfl) rfl
      case zR =>
        intro s' mv hS'
        obtain ⟨h', g', d', tk', os'⟩ := s'
        cases (show g' = s.gens from mv.gens)
        cases (show d' = s.drawn from mv.drawn)
        cases (show os' = s.os from mv.os)
        refine wpAny_pure (wpAny_pure ⟨rfl, h', tk', rfl, by rw [len]; exact hS', fun b o hb e => ?_⟩)
        exact mv.heap b o (by rw [sz]; simp only [List.mem_cons, List.not_mem_nil, or_false, not_or]; exact ⟨Nat.ne_of_lt hb, Nat.ne_of_lt (Nat.lt_succ_of_lt hb)⟩) (Heap.get?_push_of_some _ (Heap.get?_push_of_some _ e))
    · rcases r₂ with e | fl₂
      · exact hr₂
      cases fl₂ with
      | ret r =>
        obtain ⟨rfl, h', tk, rfl, hS', hk'⟩ := hr₂
        repeat (any_goals (first | assumption | wp_step))
        exact h _ _ hS' hk'
      | _ => exact hr₂.elim
  | _ => exact hr.elim
end
/-- the set of texts at a -/
def SetS (P : Program) (w : World) (a : Addr) (S : Str → Bool) (n : Nat) : HO := .ext fun h => h.SetOf (PySem.strKind P w) a S n
section
variable {X : Cx}
theorem setOfS_at {P : Program} {w : World} {h h' : Heap} {a : Addr} {S : Str → Bool} {n : Nat} (R : h.SetOf (PySem.strKind P w) a S n) (k : ∀ o, h.get? a = some o → h'.get? a = some o) : h'.SetOf (PySem.strKind P w) a S n := by
  obtain ⟨o, es, ep, t, ho, r⟩ := R
  exact ⟨o, es, ep, t, k o ho, r⟩
theorem setS_new {w : World} {P : Program} {H : Hp} {h : Heap} {a : Addr} {S : Str → Bool} {n : Nat} (R : h.SetOf (PySem.strKind P w) a S n) : ObjOk P w H h a (SetS P w a S n) := by
  have ⟨o, _, _, _, ho, _⟩ := R
  exact ⟨R, ⟨o, ho⟩, fun h1 h2 p k => setOfS_at p k⟩
theorem setS_get {pins : List (Addr × Obj)} {σ : L2.St} {H : Hp} {s : Shared} {a : Addr} {S : Str → Bool} {n : Nat} (I : Inv X pins σ H s) (ha : H a = some (SetS X.prog X.w a S n)) : s.heap.SetOf (PySem.strKind X.prog X.w) a S n := (I.hok a _ ha).1
/-- set(t), t a tuple of texts -/
def rSetT (K : PySem.W.Frag) (P : Program) (w : World) : List V → Hp → VK → Prop := fun vs H Q => ∃ (t : Addr) (zs : List Str), vs = [V.ref t] ∧ SqT K H t (zs.map V.str) ∧ zs.length ≤ 3000 ∧ ∀ p, H p = none → Q (.ref p) (upd H p (SetS P w p (fun k => zs.any (· == k)) (HV.uq zs zs.length)))
theorem call_setT (hc : X.calm = true) : CallR X (.type "set") (rSetT X.K X.prog X.w) := by
  intro pins s σ H vs us Q I r h
  obtain ⟨t, zs, rfl, hq, hl, q⟩ := h
  obtain ⟨its, rv, pl, _⟩ := I.tuple hq
  rw [Vals.ref1 r]
  refine set_textsT (I.ok.hd hc) pl (by simpa using strsAre_of rv) (by unfold scanBound; omega) fun h' tk hS hk => ?_
  have hS' : h'.SetOf (PySem.strKind X.prog X.w) s.heap.objs.size (fun k => zs.any (· == k)) (HV.uq zs zs.length) := by
    have : (zs.take zs.length) = zs := List.take_length
    unfold HV.At at hS
    rw [this] at hS
    exact hS
  exact ⟨.ref _, upd H s.heap.objs.size (SetS X.prog X.w s.heap.objs.size (fun k => zs.any (· == k)) (HV.uq zs zs.length)), I.laid (t' := tk) (fun b u e => hk b u (Heap.lt_size e) e) (Nat.le_refl _) (setS_new hS'), rfl, q _ (I.hok.fresh (Nat.le_refl _))⟩
/-- {e} -/
def tSet1 (P : Program) (w : World) (tb : TE) : TE := fun σ H Q => ∀ p, H p = none → tb σ (upd H p (SetS P w p (fun _ => false) 0)) fun y H2 => H2 p = some (SetS P w p (fun _ => false) 0) ∧ ∃ z, y = .str z ∧ Q (.ref p) (upd H2 p (SetS P w p (fun k => decide (k = z)) 1))
theorem pe_set1 {e : Expr} {te : TE} {pos : Pos} (he : PE X e te) (hcd : PySem.W.kdsCode X.K X.env.code = true) (hp : PySem.W.kdsPlain e = true := by rfl) : PE X (.Set [e] 0 pos) (tSet1 X.prog X.w te) := by
  refine ⟨fun pins s σ H Q I h => ?_⟩
  rw [arm_eval_Set]
  refine wpAny_bind (wpAny_standAt ?_)
  refine wpAny_bind (PySem.W.kds_main I.kIn hcd fun b => ?_)
  rw [PySem.W.kds_star [e] (by simp [hp]), List.map_map]
  refine PySem.W.kds_core (ts := (evalEach [e] X.env).map fun t => do let v ← t; standAt pos; pure v) (by rfl) ?_ ?_ ?_ fun led => ?_
  · refine List.findIdx?_eq_none_iff.mpr fun x hx => ?_
    obtain ⟨t, _, rfl⟩ := List.mem_map.mp hx
    rfl
  · rw [List.length_map, PySem.W.kds_len]
    show 1 ≤ 30
    decide
  · rw [List.map_map]
    try rfl
  · have S0 : (s.heap.push { cls := .type "set", dict := none, data := .set #[] 0 (.fresh 0 0 led) }).SetOf (PySem.strKind X.prog X.w) s.heap.objs.size (fun _ => false) 0 := (PyProof.Rows.setObjOf_fresh (knd := PySem.strKind X.prog X.w) led).setOf (Heap.get?_push_size _ rfl) (by decide)
    have I1 : Inv X pins σ (upd H s.heap.objs.size (SetS X.prog X.w s.heap.objs.size (fun _ => false) 0)) { s with heap := s.heap.push { cls := .type "set", dict := none, data := .set #[] 0 (.fresh 0 0 led) } } := I.laid (t' := s.toks) (fun b u e => Heap.get?_push_of_some _ e) (Nat.le_refl _) (setS_new S0)
    refine PySem.W.kds_all pos [e] _ _ ?_
    show wpAny _ _ (eval e X.env) _ _ _
    refine thn (he.run pins _ σ _ _ I1 (h _ (I.hok.fresh (Nat.le_refl _)))) fun v s1 ⟨y, H2, I2, ry, h2, z, ey, q⟩ => ?_
    subst ey
    obtain ⟨t, rfl⟩ := ry
    have hSg : s1.heap.SetOf (PySem.strKind X.prog X.w) s.heap.objs.size (fun _ => false) 0 := setS_get I2 h2
    refine PySem.W.kds_fill_cons ?_
    unfold setAdd
    refine wpAny_holding (wpAny_bind ((PySem.strKind X.prog X.w).pyHash (k := z) (strKind_is _ _ _ _) ?_))
    refine wpAny_setAddHashed_of (knd := PySem.strKind X.prog X.w) (s := { s1 with toks := s1.toks + 1 }) (strKind_is _ _ _ _) rfl hSg (by decide) fun h' sb hS' => ?_
    have hS1 : h'.SetOf (PySem.strKind X.prog X.w) s.heap.objs.size (fun k => decide (k = z)) 1 := SetOf_congr hS' (fun x => by simp) rfl
    have hex : ∃ u, h'.get? s.heap.objs.size = some u := by
      have ⟨o, _, _, _, ho, _⟩ := hS1
      exact ⟨o, ho⟩
    exact PySem.W.kds_fill_nil rfl ⟨.ref _, upd H2 s.heap.objs.size (SetS X.prog X.w s.heap.objs.size (fun k => decide (k = z)) 1), I2.write (e := s.heap.objs.size) (t' := s1.toks + 1) (by rw [h2]; trivial) (.inl rfl) (fun b u hb hu => (sb.2 b hb).trans hu) hex (setS_new hS1), rfl, q⟩
/-- set(t) == {z} -/
def rEqSet1 (P : Program) (w : World) : R2 := fun x y H Q => ∃ (a b : Addr) (S : Str → Bool) (n : Nat) (z : Str), x = .ref a ∧ y = .ref b ∧ H a = some (SetS P w a S n) ∧ H b = some (SetS P w b (fun k => decide (k = z)) 1) ∧ Q (.bl (decide (n = 1) && S z)) H
theorem op_eqSet1 (hu : X.A.units < cLine) : OpR X (compareOp .Eq) (rEqSet1 X.prog X.w) := by
  intro pins s σ H x y v u Q I rx ry h
  obtain ⟨a, b, S, n, z, rfl, rfl, ha, hb, q⟩ := h
  cases rx
  cases ry
  exact rc_set1 (setS_get I ha) (setS_get I hb) hu ⟨.bl _, H, I, rfl, q⟩
end
/-- THE RULE for a def, its code known to stand -/
theorem Fun.okC {P : Program} {w : World} {K : PySem.W.Frag} {mg : Str → Option Value} {base : Heap} {x qual : Str} {st : Stmt} {f : Addr} {fd : FuncData} {N ps : List Str} {k : Nat} {sp : Sp} (F : Fun K x qual st f fd) (S : FnScope N ps (defScope st)) (len : ∀ vs H Q E, sp vs H Q E → vs.length = ps.length)
    (hbody : ∀ (cdv : Value) (A : Around) (outer : List Env) (s : Shared) (H : Hp) (vs : List V) (Q : VK) (E : XK), PySem.W.kdsCode K cdv = true → Room k (A.deeper (envOfC qual (defScope st) s.heap.objs.size f cdv)) → sp vs H Q E →
      ∃ t, PSs (cxOf CX0 P w K mg base N qual (defScope st) f cdv A outer s H E).nox (defBody st) t ∧ t { nx := fun _ H' => Q .non H', rt := Q } (start N vs) H) : FnOk P w K mg base CX0 (k + 1) f fd ps sp := by
  obtain ⟨oc, od, kV, doc, pm, an, cdv, ct, osl, rfl, lk, hcd⟩ := F.ex
  refine fn_of lk hcd S len fun A outer s H vs Q E hr hsp => ?_
  have hk : PySem.W.kdsCode K cdv = true := by
    unfold PySem.W.codeIn at hcd
    unfold PySem.W.kdsCode
    split at hcd
    · rename_i c
      split at hcd
      · rename_i e
        show (match List.lookup c K with | some ⟨_, _, .fields _, _⟩ => true | _ => false) = true
        rw [e]
      · cases hcd
    · cases hcd
  obtain ⟨t, h, q⟩ := hbody cdv A outer s H vs Q E hk hr hsp
  exact ⟨t, h.nox, q⟩
section
variable {X : Cx}
/-- t.count(x), t a tuple of data -/
def rCountT (K : PySem.W.Frag) : V → List V → Hp → VK → Prop := fun x xs H Q => ∃ (a : Addr) (y : V) (d : PyData) (ds : List PyData), x = V.ref a ∧ xs = [y] ∧ Dp K H (V.ref a) (.tuple ds) ∧ Dp K H y d ∧
  SeqAt.shaped (.tuple ds) = true ∧ SeqAt.shaped d = true ∧ Q (.int (ds.countP (fun z => PyData.eqv z d) : Nat)) H
theorem mt_countT (hu : X.A.units + 65 < cLine) : MtR X "tuple.count" (rCountT X.K) := by
  intro pins s σ H x xs v us Q I rx rxs h
  obtain ⟨a, y, d, ds, rfl, rfl, hl, hy, sl, sd, q⟩ := h
  cases rx
  cases rxs with
  | cons ry rt =>
    rename_i uy ut
    cases rt
    obtain ⟨bs, r1⟩ := Dp.reads I d y uy hy ry
    have hxs : PyData.canLayAll0 ds = true := SeqAt.canLay_of_shaped sl
    have hroom : X.A.units + 1 + min (PyData.depthAll ds) d.depth < cLine := room_in_shaped sd hu
    cases hl with
    | tup hs ha =>
      obtain ⟨its, rv, ⟨⟨cls, dd, data, sls⟩, ho, hc, n, hdt⟩, hlen⟩ := I.tuple hs
      simp only at hc hdt
      subst hc hdt
      obtain ⟨as, h4⟩ := Dp.readsAll I ds _ its ha rv
      have hmap : its.map (SeqAt.readOf s.heap) = ds := SeqAt.readsAll_map ds its as hxs h4
      refine call_meets PySem.F.slot_tuple_count ⟨_, ho, rfl⟩ PySem.F.entry_tuple_count (PySem.F.args_tuple_count_2 _ _)
        (SeqAt.tuple_countAt a its.toArray n dd sls uy (fun u => PyData.eqv (SeqAt.readOf s.heap u) d)) ⟨ho, SeqAt.items_eqAt (vs := its.toArray) (show ReadsAll s.heap its.toArray.toList ds as from h4) r1 hxs (SeqAt.canLay_of_shaped sd) hroom, ?_⟩
      have ec : its.toArray.toList.countP (fun u => PyData.eqv (SeqAt.readOf s.heap u) d) = ds.countP (fun z => PyData.eqv z d) := by
        rw [← hmap, List.countP_map]
        rfl
      refine ⟨.int (ds.countP (fun z => PyData.eqv z d) : Nat), H, I.tok _, ⟨s.toks, ?_⟩, q⟩
      rw [ec]
end
end HAC
/-! Own rules over the hand layer: tuples whose objects have no dict of their own; their methods. -/
namespace HAD
open PySem PySem.Spec PyProof.Rows L2 HX
/-- a plain tuple -/
def PlT (H : Hp) (a : Addr) (xs : List V) : Prop := ∃ o, H a = some (.frz o (.tup xs)) ∧ o.dict = none
theorem PlT.sqt {K : PySem.W.Frag} {H : Hp} {a : Addr} {xs : List V} (h : PlT H a xs) : SqT K H a xs := let ⟨o, e, _⟩ := h; .inl (.inr ⟨o, e⟩)
section
variable {X : Cx}
/-- a display -/
def tTupP (t : TA) : TE := fun σ H Q => t σ H fun xs H1 => xs.length ≤ sizeLine ∧ ∀ p o, H1 p = none → o.dict = none → Q (.ref p) (upd H1 p (.frz o (.tup xs)))
theorem pe_tupP {es : List Expr} {t : TA} {pos : Pos} {x1} (h : PA X es t) : PE X (.Tuple es x1 pos) (tTupP t) := by
  refine ⟨fun pins s σ H Q I hq => ?_⟩
  refine wpAny_Tuple_spliced (thn (h.run pos pins s σ H _ I hq) fun us s1 ⟨xs, H1, I1, r, z, q⟩ => ⟨by rw [← r.length]; exact z, ?_⟩)
  have hf : H1 s1.heap.objs.size = none := I1.hok.fresh (Nat.le_refl _)
  have e : (s1.heap.push { cls := .type "tuple", data := .seq us.toArray }).get? s1.heap.objs.size = some { cls := .type "tuple", data := .seq us.toArray } := Heap.get?_push_size _ rfl
  exact ⟨.ref s1.heap.objs.size, upd H1 s1.heap.objs.size (.frz { cls := .type "tuple", data := .seq us.toArray } (.tup xs)), I1.laid (t' := s1.toks) (fun b u e => Heap.get?_push_of_some _ e) (Nat.le_refl _) (show ObjOk X.prog X.w _ _ _ (.frz _ (.tup xs)) from ⟨e, z, us, r, _, e, rfl, _, rfl⟩), rfl, q _ _ hf rfl⟩
/-- t + u: u empty gives t, t empty gives u -/
def rCatP (K : PySem.W.Frag) : R2 := fun x y H Q => ∃ a b xs ys, x = .ref a ∧ y = .ref b ∧ SqT K H a xs ∧ SqT K H b ys ∧ xs.length + ys.length ≤ sizeLine ∧
  (xs = [] → Q (.ref b) H) ∧ (xs ≠ [] → ys = [] → Q (.ref a) H) ∧ (xs ≠ [] → ys ≠ [] → ∀ p o, H p = none → o.dict = none → Q (.ref p) (upd H p (.frz o (.tup (xs ++ ys)))))
theorem op_catP : OpR X (binaryOp .Add) (rCatP X.K) := by
  intro pins s σ H x y v u Q I rx ry h
  obtain ⟨a, b, xs, ys, rfl, rfl, ha, hb, hz, q0, q1, q2⟩ := h
  by_cases hx : xs = []
  · subst hx
    exact HT2.op_catA pins s σ H _ _ v u Q I rx ry ⟨a, b, [], ys, rfl, rfl, ha, hb, hz, fun _ => q0 rfl, fun n => absurd rfl n, fun n => absurd rfl n⟩
  · cases rx
    cases ry
    obtain ⟨its, r1, p1, _⟩ := I.tuple ha
    obtain ⟨its2, r2, p2, _⟩ := I.tuple hb
    refine HT.cat_tup p1 p2 (fun z => hx (r1.nil_iff.mp z)) (fun z => ⟨.ref a, H, I, rfl, q1 hx (r2.nil_iff.mp z)⟩) (fun z => ?_) (by rw [← r1.length, ← r2.length]; exact hz)
    have e : (s.heap.push { cls := .type "tuple", data := .seq (its ++ its2).toArray }).get? s.heap.objs.size = some { cls := .type "tuple", data := .seq (its ++ its2).toArray } := Heap.get?_push_size _ rfl
    exact ⟨.ref s.heap.objs.size, _, I.laid (t' := s.toks) (o := .frz { cls := .type "tuple", data := .seq (its ++ its2).toArray } (.tup (xs ++ ys))) (fun b ob q => Heap.get?_push_of_some _ q) (Nat.le_refl _) (show ObjOk X.prog X.w _ _ _ (.frz _ (.tup (xs ++ ys))) from ⟨e, by rw [List.length_append]; exact hz, _, r1.append r2, _, e, rfl, _, rfl⟩), rfl, q2 hx (fun w => z (r2.nil_iff.mpr w)) _ _ (I.hok.fresh (Nat.le_refl _)) rfl⟩
/-- a method of a plain tuple -/
def tBMt (r : V → List V → Hp → VK → Prop) (to : TE) (t : TA) : TE := fun σ H Q => to σ H fun x H1 => (∃ p xs, x = .ref p ∧ PlT H1 p xs) ∧ t σ H1 fun xs H2 => r x xs H2 Q
variable {o e : Expr} {es : List Expr} {to : TE} {t : TA} {name : Str} {apos cpos : Pos} {id : String} {r : V → List V → Hp → VK → Prop}
theorem pe_bmt (pa : PlainAttrs "tuple") (slot : Slot "tuple" name id) (hty : typeOf (.builtin id) = pure (.type "method_descriptor")) (hm : MtR X id r) (ho : PE X o to) (ha : PA X (e :: es) t)
    (hbase : attributeBase o name X.env (eval o X.env) = eval o X.env := by rfl)
    (hfew : ((backTo cpos (starEach (e :: es) X.env)).all (fun x => !x.1) && (backToKw cpos (keywordEach [] X.env)).all (fun x => x.1.isSome)
      && decide ((e :: es).length + ([] : List Keyword).length + (if ([] : List Keyword).isEmpty then 0 else 1) < 30)) = true := by rfl)
    (hline : (apos.endLine == cpos.line) = true := by rfl) (hs : starEach (e :: es) X.env = (false, eval e X.env) :: starEach es X.env := by rfl) (hplain : (backTo cpos (starEach es X.env)).any (·.1) = false := by rfl) :
    PE X (.Call (.Attribute o name apos) (e :: es) [] cpos) (tBMt r to t) := by
  refine ⟨fun pins s σ H Q I h => ?_⟩
  refine wpAny_Call_method_late hbase hfew hline rfl (thn (ho.run pins s σ H _ I h) fun v s1 ⟨x, H1, I1, r1, ty, q1⟩ => ?_)
  obtain ⟨p, xs, rfl, ob, hp, hdn⟩ := ty
  have r0 := r1
  cases r1
  have hk := I1.hok p _ hp
  have hg : s1.heap.get? p = some ob := hk.1
  have hcls : ob.cls = .type "tuple" := by
    obtain ⟨_, its, _, o2, e2, c2, _⟩ := hk.2
    rw [hg] at e2
    cases e2
    exact c2
  refine ⟨"tuple", id, pa, slot, hty, ⟨ob, hg, hcls⟩, fun a e => by cases e; exact ⟨ob, hg, hdn⟩, ?_⟩
  have hA := ha.run cpos pins s1 σ H1 _ I1 q1
  rw [hs] at hA ⊢
  refine Calls.callWith_builtin (by show (false || (backTo cpos (starEach es X.env)).any (·.1)) = false; rw [hplain] <;> rfl) (Calls.evalArgs_plain ?_)
  exact thn hA fun us s2 ⟨vs, H2, I2, r2, q2⟩ => hm pins s2 σ H2 _ vs _ us Q I2 r0 r2 q2
end
end HAD
/-! a tuple put together n times, n from 0 on -/
namespace HAE
open PySem PySem.Spec PyProof.Rows L2
theorem tuple_mul0 (l : Addr) (items : Array Value) (n : Nat) (dd : Option Addr) (sl : Array (Option Value)) (u : Tok) (hne : items.isEmpty = false) :
    Meets (Builtin.«tuple.__mul__» ⟨[.ref l, .int 0 u], []⟩) (fun _ R s => s.heap.get? l = some { cls := .type "tuple", dict := dd, data := .seq items n, slots := sl } ∧
      R (.ok (.ret (Value.ref s.heap.objs.size))) { s with heap := s.heap.push { cls := Value.type "tuple", data := Data.seq #[] }, toks := s.toks }) :=
  .of_wp fun prog w A R s h => by
    obtain ⟨hp, g, d, tk, os⟩ := s
    obtain ⟨hl, h⟩ := h
    have f1 := AutoSeq1.idx_int
    wp_walk using wpAny_loadPart' hl
    exact ⟨_, rfl, h⟩
theorem tuple_mul1 (l : Addr) (items : Array Value) (n : Nat) (dd : Option Addr) (sl : Array (Option Value)) (u : Tok) (hne : items.isEmpty = false) :
    Meets (Builtin.«tuple.__mul__» ⟨[.ref l, .int 1 u], []⟩) (fun _ R s => s.heap.get? l = some { cls := .type "tuple", dict := dd, data := .seq items n, slots := sl } ∧
      R (.ok (.ret (Value.ref l))) s) :=
  .of_wp fun prog w A R s h => by
    obtain ⟨hp, g, d, tk, os⟩ := s
    obtain ⟨hl, h⟩ := h
    have f1 := AutoSeq1.idx_int
    wp_walk using wpAny_loadPart' hl
    exact ⟨_, rfl, h⟩
def rRepB (K : PySem.W.Frag) : R2 := fun x y H Q => ∃ l k xs, x = .ref l ∧ y = .int k ∧ SqT K H l xs ∧ xs ≠ [] ∧ 0 ≤ k ∧ k ≤ 1000 ∧ xs.length ≤ 1000 ∧ (k = 1 → Q (.ref l) H) ∧ (k ≠ 1 → ∀ p, H p = none → Q (.ref p) (upd H p (.tup (List.replicate k.toNat xs).flatten)))
section
variable {X : Cx}
theorem op_repB : OpR X (binaryOp .Mult) (rRepB X.K) := by
  intro pins s σ H x y v u Q I rx ry h
  obtain ⟨l, k, xs, rfl, rfl, hT, hne, h1, h2, hz, q1, q2⟩ := h
  by_cases k2 : 2 ≤ k
  · exact op_repT pins s σ H _ _ v u Q I rx ry ⟨l, k, xs, rfl, rfl, hT, hne, k2, h2, hz, q2 (by omega)⟩
  cases rx
  obtain ⟨t, rfl⟩ := ry
  obtain ⟨its, r, ⟨⟨cls, dd, data, sl⟩, ho, hc, n, hd⟩, hs⟩ := I.tuple hT
  simp only at hc hd
  subst hc hd
  have hle : its.length = xs.length := r.length.symm
  have hi : its.toArray.isEmpty = false := by
    cases its with
    | nil =>
      exact absurd (List.eq_nil_of_length_eq_zero hle.symm) hne
    | cons a b => rfl
  rcases (by omega : k = 0 ∨ k = 1) with rfl | rfl
  · refine wpAny_binaryOp_repeat_ref (T := "tuple") (U := "int") (by decide) ⟨_, ho, rfl⟩ (fun s' => typeIs_int s' 0 t) noFill_tuple_mul F.fills_int_mul F.slot_int_rmul repeat_tuple F.slot_int_index.lookup
      (call_meets F.slot_int_rmul (typeIs_int s 0 t) F.entry_int_rmul (F.args_int_rmul_2 _ _) (int_rmul_tuple 0 t l its.toArray n dd sl)
        ⟨ho, rfl, ⟨_, ho, rfl⟩, call_meets F.slot_tuple_mul ⟨_, ho, rfl⟩ F.entry_tuple_mul (F.args_tuple_mul_2 _ _) (tuple_mul0 l its.toArray n dd sl t hi) ⟨ho, ?_⟩⟩)
    refine ⟨.ref s.heap.objs.size, _, I.laid (t' := s.toks) (o := .tup []) (fun b ob q => Heap.get?_push_of_some _ q) (Nat.le_refl _) ?_, rfl, q2 (by decide) _ (I.hok.fresh (Nat.le_refl _))⟩
    exact ⟨Nat.zero_le _, [], .nil, IsTup.new _ _⟩
  · refine wpAny_binaryOp_repeat_ref (T := "tuple") (U := "int") (by decide) ⟨_, ho, rfl⟩ (fun s' => typeIs_int s' 1 t) noFill_tuple_mul F.fills_int_mul F.slot_int_rmul repeat_tuple F.slot_int_index.lookup
      (call_meets F.slot_int_rmul (typeIs_int s 1 t) F.entry_int_rmul (F.args_int_rmul_2 _ _) (int_rmul_tuple 1 t l its.toArray n dd sl)
        ⟨ho, rfl, ⟨_, ho, rfl⟩, call_meets F.slot_tuple_mul ⟨_, ho, rfl⟩ F.entry_tuple_mul (F.args_tuple_mul_2 _ _) (tuple_mul1 l its.toArray n dd sl t hi) ⟨ho, ?_⟩⟩)
    exact ⟨.ref l, H, I, rfl, q1 rfl⟩
end
end HAE
/-! fields within comprehensions; parts of texts -/
namespace HAF
open PySem PySem.Spec PyProof.Rows L2
theorem pe_fldK {X : Cx} {K : PySem.W.Frag} {o : Expr} {f : Str} {pos : Pos} {ta : TE} (hK : X.K = K) (ha : PE X o ta) (hb : attributeBase o f X.env (eval o X.env) = eval o X.env) : PE X (.Attribute o f pos) (tFld K ta f) := by
  subst hK
  exact pe_fld ha hb
end HAF
/-! methods called with keywords -/
namespace HAG
open PySem PySem.Spec PyProof.Rows L2
def tMethN (C : Addr) (m : Str) (n nk : Nat) (sp : Sp) (gV : List V → List V → List V) (E : XK) (ta : TE) (t tk : TA) : TE := fun σ H Q => ta σ H fun x H1 => ∃ a dx fs, x = .ref a ∧ H1 a = some (.ins C dx fs) ∧ fs.lookup m = none ∧
  t σ H1 fun vs H2 => tk σ H2 fun zs H3 => vs.length = n ∧ zs.length = nk ∧ sp (gV (.ref a :: vs) zs) H3 Q E
section
variable {X : Cx} {CX : CXT} {k n : Nat} {C f : Addr} {fd : FuncData} {ps ks : List Str} {sp : Sp} {E : XK} {m : Str} {apos pos : Pos} {o e : Expr} {es : List Expr} {kws : List Keyword} {ta : TE} {t tk : TA} {g : List Value → List Value → List Value} {gV : List V → List V → List V}
theorem pe_methN {pl : Sem Bool} (he : PE X o ta) (c : Cls X.K C) (hm : Meth X.K C m f) (F : FnOk X.prog X.w X.K X.mg X.base CX k f fd ps sp) (hr : Room k X.A) (hb : KBn X.K fd ps (n + 1) ks g gV) (hx : Passes CX X E)
    (ha : PA X (e :: es) t) (hkw : PK X kws tk) (hall : (backToKw pos (keywordEach kws X.env)).all (·.1.isSome) = true := by rfl) (hks : (backToKw pos (keywordEach kws X.env)).filterMap (·.1) = ks := by rfl)
    (hst : starEach (e :: es) X.env = (false, eval e X.env) :: starEach es X.env := by rfl)
    (hpl : ((backTo pos (starEach (e :: es) X.env)).any (·.1) || (backToKw pos (keywordEach kws X.env)).any (·.1.isNone)) = false := by rfl)
    (ht : eval (.Call (.Attribute o m apos) (e :: es) kws pos) X.env = (do
      let ov ← eval o X.env
      standAt apos.atName
      let (f, first) ← holding [ov] (getMethod ov m pl)
      callWith pos f first (backTo pos (starEach (e :: es) X.env)) (backToKw pos (keywordEach kws X.env))) := by rfl) :
    PE X (.Call (.Attribute o m apos) (e :: es) kws pos) (tMethN C m n ks.length sp gV E ta t tk) := by
  refine ⟨fun pins s σ H Q I h => ?_⟩
  refine PySem.W.methodCall_KW (pl := pl) (thn (he.run pins s σ H _ I h) fun u s1 ⟨x, H1, I1, rx, a, dx, fs, ex, ea, l, q⟩ => ?_) ht
  subst ex
  obtain rfl : u = Value.ref a := rx
  refine getmeth_ok I1 ea c hm l ?_
  refine PySem.W.callWith_KW (first := [.ref a]) (h₀ := X.base) I.ok.mod.kin hm.kp hall (thn (ha.run pos pins s1 σ H1 _ I1 q) fun us s2 ⟨vs, H2, I2, r, q2⟩ => ?_) hpl hst
  refine thn (hkw.run pos pins s2 σ H2 _ I2 q2) fun ws s3 ⟨zs, H3, I3, rz, l1, l2, q3⟩ => ⟨I3.kIn, ?_⟩
  rw [hks]
  exact run_fnN (us := .ref a :: us) (vs := .ref a :: vs) F hr hb hx I3 (.cons rfl r) rz (by rw [List.length_cons, l1]) l2 q3
theorem pe_methN0 {pl : Sem Bool} (he : PE X o ta) (c : Cls X.K C) (hm : Meth X.K C m f) (F : FnOk X.prog X.w X.K X.mg X.base CX k f fd ps sp) (hr : Room k X.A) (hb : KBn X.K fd ps 1 ks g gV) (hx : Passes CX X E)
    (hkw : PK X kws tk) (hall : (backToKw pos (keywordEach kws X.env)).all (·.1.isSome) = true := by rfl) (hks : (backToKw pos (keywordEach kws X.env)).filterMap (·.1) = ks := by rfl)
    (hpl : ((backTo pos (starEach [] X.env)).any (·.1) || (backToKw pos (keywordEach kws X.env)).any (·.1.isNone)) = false := by rfl)
    (ht : eval (.Call (.Attribute o m apos) [] kws pos) X.env = (do
      let ov ← eval o X.env
      standAt apos.atName
      let (f, first) ← holding [ov] (getMethod ov m pl)
      callWith pos f first (backTo pos (starEach [] X.env)) (backToKw pos (keywordEach kws X.env))) := by rfl) :
    PE X (.Call (.Attribute o m apos) [] kws pos) (tMethN C m 0 ks.length sp gV E ta tNil tk) := by
  refine ⟨fun pins s σ H Q I h => ?_⟩
  refine PySem.W.methodCall_KW (pl := pl) (thn (he.run pins s σ H _ I h) fun u s1 ⟨x, H1, I1, rx, a, dx, fs, ex, ea, l, q⟩ => ?_) ht
  subst ex
  obtain rfl : u = Value.ref a := rx
  refine getmeth_ok I1 ea c hm l ?_
  refine PySem.W.callWith_KW0 (first := [.ref a]) (h₀ := X.base) I.ok.mod.kin hm.kp hall ?_ hpl
  refine thn (hkw.run pos pins s1 σ H1 _ I1 q) fun ws s3 ⟨zs, H3, I3, rz, l1, l2, q3⟩ => ⟨I3.kIn, ?_⟩
  rw [hks]
  exact run_fnN (us := [.ref a]) (vs := [.ref a]) F hr hb hx I3 (.cons rfl .nil) rz rfl l2 q3
/-- keywords that have no defaults -/
theorem kbindsA {K : PySem.W.Frag} {x qual : Str} {params : Arguments} {body : List Stmt} {scope : Scope} {f : Addr} {fd : FuncData} {ps ks : List Str} (F : FunD K x qual params body scope [] [] f fd) (n : Nat) (g : {α : Type} → List α → List α → List α) (hrel : ∀ {vs zs : List V} {us ws : List Value}, Vals vs us → Vals zs ws → Vals (g vs zs) (g us ws))
    (h : ∀ (kV doc pm : Value) (an : Option Addr) (cdv ct : Value) (us ws : List Value), us.length = n → ws.length = ks.length → bindArgs (PySem.W.fnOf x qual params body scope .none kV doc pm an cdv ct) ⟨us, ks.zip ws⟩ = pure (ps.zip (g us ws))) : KBn K fd ps n ks (fun us ws => g us ws) (fun vs zs => g vs zs) := by
  obtain ⟨oc, od, dV, kV, doc, pm, an, cdv, ct, osl, rfl, lk, hcd, hD, hK⟩ := F.ex
  rcases hD with ⟨_, rfl⟩ | ⟨e, _⟩
  · exact ⟨fun s us ws X l1 l2 => .of_eq (h kV doc pm an cdv ct us ws l1 l2), fun r1 r2 => hrel r1 r2⟩
  · exact absurd rfl e
end
end HAG
/-! a list comprehension out of which an exception of an element's call may go -/
namespace HAH
open PySem PySem.Spec PyProof.Rows L2
open Sem (wp)
section
variable {M : Model} {A : Around} {E : Value → Shared → Prop} {s : Shared} {env : Env}
def postE (M : Model) (A : Around) (E : Value → Shared → Prop) (Q : Value → Shared → Prop) (acc : Value) (ce : Env) (r : Result) (s' : Shared) : Prop :=
  match r with
  | .ok _ => ∃ m, s'.heap.Ns ce.locals m ∧ ∀ h', Heap.SameBut ce.locals s'.heap h' → Q acc { s' with heap := h' }
  | .error x => ∃ m, s'.heap.Ns ce.locals m ∧ ∀ h', Heap.SameBut ce.locals s'.heap h' → wpAny M A (passOn "comprehension.variables-let-go" x ce : Sem Value) (fun _ _ => False) E { s' with heap := h' }
theorem comp_freeE {e : Expr} {scope : Scope} {pos : Pos} {newAcc first : Sem Value} {g : Comprehension} {gs : List Comprehension} {cl : List (Str × Addr)} {Q : Value → Shared → Prop}
    (hcl : clausesOf e = g :: gs) (hs : ∀ x, foldedSetIterable g.iter env x = pure x) (hclos : closureFor scope env = pure cl)
    (hkind : scope.kind = .function) (hnames : ∀ x ∈ scope.names, x.2 = .local → scope.names.lookup x.1 = some .local)
    (h : wpAny M A first (fun x s₁ => wpAny M A (pyIter x) (fun it s₂ => wpAny M A newAcc (fun acc s₃ =>
      wpAny M A (newFunctionEnv scope env.globals cl [] env.qual none .none (some env)) (fun cenv s₄ =>
        codeAny M A (.compStart e 0 it acc { cenv with scope := relabel scope env }) (postE M A E Q acc { cenv with scope := relabel scope env }) s₄) E s₃) E s₂) E s₁) E s) :
    wpAny M A (comprehension e scope env pos newAcc false first none) Q E s := by
  unfold comprehension
  rw [hclos, hcl]
  refine wpAny_bind (wpAny_mono h (fun x s₁ h₁ => wpAny_bind (wpAny_standAt (wpAny_bind (wpAny_of_eq (hs x) (wpAny_bind (wpAny_holding (wpAny_mono h₁ (fun it s₂ h₂ =>
    wpAny_standIf (wpAny_bind (wpAny_mono h₂ (fun acc s₃ h₃ => wpAny_bind (wpAny_pure (wpAny_bind (wpAny_mono h₃ (fun cenv s₄ h₄ => ?_) fun _ _ h' => h')))) fun _ _ h' => h')))
      fun _ _ h' => h'))))))) fun _ _ h' => h')
  dsimp only
  have hv : ∀ x ∈ (scope.names.filter fun x => (x.2 == .local || x.2 == .cell) && x.1 != (".0" : Str)).reverse, x.2 = .local →
      Env.kindOf { cenv with scope := relabel scope env } x.1 = some .local := fun x hx hl => lookup_relabel_local (hnames x (List.mem_filter.mp (List.mem_reverse.mp hx)).1 hl)
  refine wpAny_holding (wpAny_bind (wpAny_attempt (wpAny_holding (wpAny_run (codeAny_mono h₄ fun r s' hr => ?_)))))
  cases r with
  | ok f =>
    obtain ⟨m, hn, hr⟩ := hr
    exact wpAny_bind (wpAny_holding (wpAny_comp_letGo (cenv := { cenv with scope := relabel scope env }) hkind _ s' m hv hn fun h' m' _ hs' => wpAny_pure (hr h' hs')))
  | error x =>
    obtain ⟨m, hn, hr⟩ := hr
    exact wpAny_bind (wpAny_holding (wpAny_comp_letGo (cenv := { cenv with scope := relabel scope env }) hkind _ s' m hv hn fun h' m' _ hs' => wpAny_mono (hr h' hs') (fun _ _ f => f.elim) fun _ _ y => y))
end
/-- what may leave the block: an exception of a call -/
def XeB (X : Cx) (s : Shared) (H : Hp) (scope : Scope) (ce : Env) (fp : List Addr) (E : XK) : Value → Shared → Prop := fun e s' =>
  ∃ pins σ H1 s1, Inv (X.blk s H scope ce fp) pins σ H1 s1 ∧ CX X.prog X.w X.stack H1 s1 E e s'
abbrev blkE (X : Cx) (s : Shared) (H : Hp) (scope : Scope) (cenv : Env) (fp : List Addr) (E : XK) : Cx := { X.blk s H scope cenv fp with xe := XeB X s H scope cenv fp E }
section
variable {X : Cx} {pins : List (Addr × Obj)} {σ : L2.St} {H H0 : Hp} {s s0 : Shared} {scope : Scope} {ce : Env} {fp : List Addr} {E : XK}
theorem ok_to (ok : (X.blk s0 H0 scope ce fp).Ok) : (blkE X s0 H0 scope ce fp E).Ok :=
  ⟨ok.mod, ok.kind, ok.glob, ok.blt, ok.above, ok.inj, ok.has, ok.cab, ok.hd, ok.frames, ok.stk, ok.exf, ok.bs, ok.bsz, ok.noex, ok.exfs, ok.funs, ok.frf⟩
theorem ok_of (ok : (blkE X s0 H0 scope ce fp E).Ok) : (X.blk s0 H0 scope ce fp).Ok :=
  ⟨ok.mod, ok.kind, ok.glob, ok.blt, ok.above, ok.inj, ok.has, ok.cab, ok.hd, ok.frames, ok.stk, ok.exf, ok.bs, ok.bsz, ok.noex, ok.exfs, ok.funs, ok.frf⟩
theorem inv_to (I : Inv (X.blk s0 H0 scope ce fp) pins σ H s) : Inv (blkE X s0 H0 scope ce fp E) pins σ H s :=
  ⟨ok_to I.ok, I.os, I.bare, I.base, I.loc, I.cell, I.free, I.freeC, I.pin, I.hok, I.len⟩
theorem inv_of (I : Inv (blkE X s0 H0 scope ce fp E) pins σ H s) : Inv (X.blk s0 H0 scope ce fp) pins σ H s :=
  ⟨ok_of I.ok, I.os, I.bare, I.base, I.loc, I.cell, I.free, I.freeC, I.pin, I.hok, I.len⟩
theorem passB : Passes (L2.CX X.prog X.w) (blkE X s0 H0 scope ce fp E) E := fun pins σ H s e s' I c => ⟨pins, σ, H, s, inv_of I, c⟩
end
theorem funFrames_but {B B' h h' : Heap} : ∀ {l : List Env}, h.FunFrames B l → (∀ L ∈ frs l, B'.get? L = none ∧ h'.get? L = h.get? L) → h'.FunFrames B' l
  | [], _, _ => trivial
  | env :: l, hh, hn => by
    obtain ⟨hk, ⟨L, o, hf, _, ho, hd⟩, hr⟩ := hh
    have q := hn L (List.mem_filterMap.mpr ⟨env, List.mem_cons_self, hf⟩)
    exact ⟨hk, ⟨L, o, hf, q.1, q.2.trans ho, hd⟩, funFrames_but hr fun b hb => by
      obtain ⟨e, he, q⟩ := List.mem_filterMap.mp hb
      exact hn b (List.mem_filterMap.mpr ⟨e, List.mem_cons_of_mem _ he, q⟩)⟩
theorem note_eq {e : Value} {a b : Env} (h : a.frame = b.frame) : noteFrame e a = noteFrame e b := by
  unfold noteFrame PySem.frameOf
  rw [h]
section
variable {X : Cx} {pins : List (Addr × Obj)} {σ : L2.St}
/-- it leaves the block -/
theorem blk_leave {Qf : Value → Shared → Prop} {pins' : List (Addr × Obj)} {σ' : L2.St} {H3 H5 : Hp} {s3 s5 s' : Shared} {scope : Scope} {ce : Env} {fp : List Addr} {E : XK} {D u : Value}
    (hs : X.stack = X.env :: X.outer) (hf : X.env.frame = some X.env.locals) (tk : Takes X (fun cls d _ H => E cls d H))
    (I3 : Inv X pins σ H3 s3) (f3 : ∀ b ∈ fp, FpOk X pins H3 b) (hL : ce.locals = s3.heap.objs.size) (hF : ce.frame = X.env.frame)
    (I : Inv (X.blk s3 H3 scope ce fp) pins' σ' H5 s5) (c : CX X.prog X.w X.stack H5 s5 E u s') :
    notedBy (model X.prog X.w) X.A ce (fun e s'' => postE (model X.prog X.w) X.A X.xe Qf D ce (.error e) s'') u s' := by
  obtain ⟨a, B, H', cls, d, rfl, fl, hok, ub, na, os, ag, hE⟩ := c
  have C3 : FpOk X pins H3 ce.locals := by
    rw [hL]
    exact I3.fpOk (Nat.le_refl _) (I3.hok.fresh (Nat.le_refl _))
  have hCs : ce.locals ∉ frs X.stack := fun hm => by
    rcases List.mem_cons.mp (I3.stkSub _ hm) with z | z
    · exact C3.2.1 z
    · exact C3.2.2.1 z
  obtain ⟨m, oC, es, ep, hoC, rC⟩ : ∃ (m : Str → Option Value) (oC : Obj) (es : _) (ep : _), s5.heap.get? ce.locals = some oC ∧ oC.data = .dict es ep ∧ StrKeys es ∧ ∀ name, nsFind es name = m name := by
    obtain ⟨m, ⟨o, es, ep, ho, r⟩, _⟩ := I.loc
    exact ⟨m, o, es, ep, ho, r⟩
  have hC5 : H5 ce.locals = none := I.free
  have hBC : B.get? ce.locals = some oC := ub.keep _ _ hoC hC5 hCs
  unfold notedBy
  rw [note_eq hF]
  have hfr : X.A.frames = some (X.env :: X.outer) := by rw [I3.ok.frames, hs]
  have fl0 := fl
  rw [hs] at fl
  refine HandSPX.looks_onZ Zc.steady hfr hf fl fun h1 held up1 => ?_
  refine ⟨m, ⟨oC, es, ep, held.1 _ _ hBC, rC⟩, fun h' sb => ?_⟩
  obtain ⟨B', b1, b2⟩ := restrict B fun b => decide (b ≠ ce.locals)
  have bB : ∀ b o, B'.get? b = some o → b ≠ ce.locals ∧ B.get? b = some o := fun b o e => by
    by_cases hb : b = ce.locals
    · rw [b2 b (by simp [hb])] at e; cases e
    · exact ⟨hb, by rw [← b1 b (by simp [hb])]; exact e⟩
  have bN : ∀ b, B.get? b = none → B'.get? b = none := fun b e => by
    cases q : B'.get? b with
    | none => rfl
    | some o => rw [(bB b o q).2] at e; cases e
  obtain ⟨k1, k2, k3, oe, vs, T, oT, ts, q1, q2, q3, q4, q5, q6, q7, q8, q9⟩ := held
  have naC : a ≠ ce.locals := fun e => by rw [e, hBC] at k2; cases k2
  have nTC : T ≠ ce.locals := fun e => by rw [e, hBC] at q5; cases q5
  have held' : HandSPX.HeldZ B' (X.env :: X.outer) a (Zc cls d) X.env.locals h' := by
    refine ⟨fun b o e => ?_, bN _ k2, funFrames_but k3 fun L hm => ⟨bN _ (k3.mem hm).1, ?_⟩, oe, vs, T, oT, ts, (sb.2 a naC).trans q1, q2, q3, q4, bN _ q5, q6, (sb.2 T nTC).trans q7, q8, q9⟩
    · obtain ⟨h1, h2⟩ := bB b o e
      exact (sb.2 b h1).trans (k1 b o h2)
    · exact sb.2 L fun e => hCs (by rw [← e, hs]; exact hm)
  -- the state without it
  obtain ⟨G, g1, g2⟩ := restrict s'.heap fun b => (B.get? b).isSome || decide (b ∈ frs X.stack)
  have st : B.StaysIn s'.heap := fl.1
  have gB : ∀ b o, B.get? b = some o → G.get? b = some o := fun b o e => by
    rw [g1 b (by simp [e])]
    exact st b o e
  have gF : ∀ b, b ∈ frs X.stack → G.get? b = s'.heap.get? b := fun b hb => g1 b (by simp [hb])
  have og : ∀ b o, G.get? b = some o → s'.heap.get? b = some o ∧ ((B.get? b).isSome = true ∨ b ∈ frs X.stack) := fun b o e => by
    cases q : ((B.get? b).isSome || decide (b ∈ frs X.stack)) with
    | false => rw [g2 b q] at e; cases e
    | true =>
      rw [g1 b q] at e
      exact ⟨e, by simpa [Bool.or_eq_true] using q⟩
  have I6 : Inv (X.blk s3 H3 scope ce fp) pins' σ' H' { s5 with heap := G, gens := s'.gens, drawn := s'.drawn, toks := s'.toks } := by
    refine I.call (ch := []) ⟨fun b o e n hb _ => gB b o (ub.keep b o e n hb), fun b o e n hb _ => ?_, fun b o e n _ => ub.free b o e n, fun b o e _ => ?_, ub.tups, ub.frzs, ub.tbls⟩ (hok.kept gB) ag (fun _ z => nomatch z)
    · obtain ⟨sl, q⟩ := ub.slot b o e hb
      exact ⟨sl, by rw [gF b hb]; exact q⟩
    · by_cases hb : b ∈ frs X.stack
      · obtain ⟨sl, q⟩ := ub.slot b o e hb
        exact ⟨_, by rw [gF b hb]; exact q⟩
      · obtain ⟨o', q⟩ := ub.there b o e hb
        exact ⟨o', gB b o' q⟩
  have hC6 : H' ce.locals = none := I6.free
  have I7 : Inv X pins σ H' { s5 with heap := G, gens := s'.gens, drawn := s'.drawn, toks := s'.toks } := I3.call' (ch := fp) I6.os I6.base I6.hok I6.bare fun b hb => ⟨(f3 b hb).2.2.2.1, (f3 b hb).2.1, (f3 b hb).2.2.2.2.1, (f3 b hb).2.2.2.2.2⟩
  obtain ⟨G', g3, g4⟩ := restrict G fun b => decide (b ≠ ce.locals)
  have gg : ∀ b o, G'.get? b = some o → b ≠ ce.locals ∧ G.get? b = some o := fun b o e => by
    by_cases hb : b = ce.locals
    · rw [g4 b (by simp [hb])] at e; cases e
    · exact ⟨hb, by rw [← g3 b (by simp [hb])]; exact e⟩
  have I8 : Inv X pins σ H' { s5 with heap := G', gens := s'.gens, drawn := s'.drawn, toks := s'.toks } := I7.turned (it := ce.locals) (t' := s'.toks) (fun b o hb e => by rw [g3 b (by simp [hb])]; exact e) hC6 C3.2.1 C3.2.2.2.1 C3.2.2.2.2.1 C3.2.2.2.2.2
  obtain ⟨h3, hup⟩ : ∃ h3 : Heap, h3 = h' := ⟨_, rfl⟩
  have gh : h'.get? a = some oe := (sb.2 a naC).trans q1
  unfold PySem.passOn
  refine wpAny_bind (wpAny_field gh q3 q4 ?_)
  rw [if_neg (show ¬ ((Value.ref T == Value.none) = true) from by simp)]
  rw [hF, hf]
  refine wpAny_bind (HandSPX.setFlight_onZ held' fun h2 held2 up2 => wpAny_throw ?_)
  refine tk _ _ ⟨a, B', { s5 with heap := G', gens := s'.gens, drawn := s'.drawn, toks := s'.toks }, pins, σ, H', cls, d, rfl, I8, fun b o e hb => ?_, fun b o e hd => ?_, ?_, na, os, ag, hE⟩
  · obtain ⟨h1, h2⟩ := gg b o e
    obtain ⟨e', h⟩ := og b o h2
    rcases h with h | h
    · obtain ⟨o', q⟩ := Option.isSome_iff_exists.mp h
      have z := st b o' q
      rw [e'] at z; cases z
      rw [b1 b (by simp [h1])]
      exact q
    · exact absurd h hb
  · obtain ⟨h1, h2⟩ := gg b o e
    obtain ⟨sl, z⟩ := up1 b o (og b o h2).1 hd
    have z' : h'.get? b = some { o with slots := sl } := (sb.2 b h1).trans z
    obtain ⟨sl2, z2⟩ := up2 b _ z' hd
    exact ⟨sl2, z2⟩
  · rw [hs]
    exact .inr (.inr held2)
end
theorem thnX {α : Type} {t : Sem α} {Q Q' : α → Shared → Prop} {M : Model} {A : Around} {E0 E : Value → Shared → Prop} {s : Shared} (h : wpAny M A t Q E0 s) (hE : ∀ e s', E0 e s' → E e s') (hQ : ∀ a s, Q a s → Q' a s) : wpAny M A t Q' E s := wpAny_mono h hQ hE
section
variable {X : Cx}
/-- as Comp's lc_core, the block's calls may let out an exception -/
theorem lc_coreE {pins : List (Addr × Obj)} {s : Shared} {σ : L2.St} {H : Hp} {Q : VK} {elt tg iter : Expr} {ifs : List Expr} {scope : Scope} {own : List (Str × Nat)} {pos pos' : Pos} {wi : TI} {g : TG} {tt : TT} {te : TE} {Qf : Value → Shared → Prop} {E : XK}
    (hst : X.stack = X.env :: X.outer) (hfe : X.env.frame = some X.env.locals) (tk : Takes X (fun cls d _ H => E cls d H))
    (hc : X.calm = true) (hN : X.N.Nodup) (I : Inv X pins σ H s) (hi : PI X tg iter wi) (ok : BlkOk X.N X.env.scope scope own)
    (hg : ∀ (s : Shared) (H : Hp) (C : Addr) (cl : List (Str × Addr)) (fp : List Addr), PG (blkE X s H scope (compEnvC scope cl C X.env) fp E) tg g) (ht : ∀ (s : Shared) (H : Hp) (C : Addr) (cl : List (Str × Addr)) (fp : List Addr), PTs (blkE X s H scope (compEnvC scope cl C X.env) fp E) ifs tt)
    (he : ∀ (s : Shared) (H : Hp) (C : Addr) (cl : List (Str × Addr)) (fp : List Addr), PE (blkE X s H scope (compEnvC scope cl C X.env) fp E) elt te) (hs : ∀ x, foldedSetIterable iter X.env x = pure x)
    (h : tLc wi g tt te (own.map (·.2)) σ H Q)
    (hRR : ∀ D ce s' m H', Inv X pins σ H' s' → Q (.ref D) H' → s'.heap.Ns ce.locals m → FpOk X pins H' ce.locals → postE (model X.prog X.w) X.A X.xe Qf (.ref D) ce (.ok .next) s') :
    wpAny (model X.prog X.w) X.A (comprehension (.ListComp elt [⟨tg, iter, ifs, 0⟩] scope pos) scope X.env pos' (newList []) false (eval iter X.env) none) Qf X.xe s := by
  have hfree : ∀ y ∈ scope.names, y.2 = .free → ∃ c, X.env.cells.lookup y.1 = some c := fun y hy e => by
    rcases ok.free y hy e with k | k
    · exact I.ok.has _ (.inl k)
    · exact I.ok.has _ (.inr k)
  refine comp_freeE rfl hs (closure_ok hfree) ok.kind (fun y hy e => by rw [ok.uniq y hy, e])
    (thn (hi.run pins s σ H _ I h) fun xv s1 hx => thn hx fun itv s2 h2 => ?_)
  obtain ⟨it, fp, tn, J, H2, e, I2, T, st2, f2, q⟩ := h2
  subst e
  refine wpAny_newObj_type (newEnv_comp ?_) (by show 0 ≤ sizeLine; decide)
  generalize hD : s2.heap.objs.size = D
  have hDn : H2 D = none := I2.hok.fresh (Nat.le_of_eq hD)
  obtain ⟨W, ⟨m0, w0⟩, turn⟩ := q D hDn
  generalize hs3 : ({ s2 with heap := s2.heap.push { cls := .type "list", data := .seq ([] : List Value).toArray } } : Shared) = s3
  have I3 : Inv X pins σ (upd H2 D (.lst [])) s3 := by
    rw [← hs3]
    refine I2.laid (t' := s2.toks) (fun b o e => Heap.get?_push_of_some _ e) (Nat.le_of_eq hD) ⟨Nat.zero_le _, [], 0, .nil, ?_⟩
    rw [← hD]
    exact Heap.get?_push_size _ rfl
  have h3 : s3.heap = s2.heap.push { cls := .type "list", data := .seq ([] : List Value).toArray } := by rw [← hs3]
  have sz : ∀ b ∈ fp, b < s2.heap.objs.size := fun b hb => by
    obtain ⟨o, e, _⟩ := T.obj _ _ st2 b hb
    exact Heap.lt_size e
  have f3 : ∀ b ∈ fp, FpOk X pins (upd H2 D (.lst [])) b ∧ b < s3.heap.objs.size := fun b hb => by
    have hlt := sz b hb
    refine ⟨⟨?_, (f2 b hb).2⟩, by rw [h3, Heap.size_push]; exact Nat.lt_succ_of_lt hlt⟩
    rw [upd_ne (by rw [← hD]; exact Nat.ne_of_lt hlt)]
    exact (f2 b hb).1
  have st3 : tn 0 s3.heap := T.keep _ _ _ st2 fun b _ o e => by rw [h3]; exact Heap.get?_push_of_some _ e
  have I4 := block_start I3 ok hN f3
  have pg := hg s3 (upd H2 D (.lst [])) s3.heap.objs.size (cellsFrom (s3.heap.objs.size + 1) scope.names (cloFrom X.env.cells scope.names [])) fp
  have pt := ht s3 (upd H2 D (.lst [])) s3.heap.objs.size (cellsFrom (s3.heap.objs.size + 1) scope.names (cloFrom X.env.cells scope.names [])) fp
  have pe := he s3 (upd H2 D (.lst [])) s3.heap.objs.size (cellsFrom (s3.heap.objs.size + 1) scope.names (cloFrom X.env.cells scope.names [])) fp
  show codeAny _ _ (.compStart (.ListComp elt [⟨tg, iter, ifs, 0⟩] scope pos) 0 (.ref it) (.ref D) (compEnvC scope (cellsFrom (s3.heap.objs.size + 1) scope.names (cloFrom X.env.cells scope.names [])) s3.heap.objs.size X.env)) (postE (model X.prog X.w) X.A X.xe Qf (.ref D) (compEnvC scope (cellsFrom (s3.heap.objs.size + 1) scope.names (cloFrom X.env.cells scope.names [])) s3.heap.objs.size X.env)) { s3 with heap := pushCells (s3.heap.push { cls := .type "dict", data := .dict #[] }) scope.names }
  have nfp : ∀ b ∈ fp, (upd H2 D (.lst [])) b = none := fun b hb => (f3 b hb).1.1
  generalize hce : compEnvC scope (cellsFrom (s3.heap.objs.size + 1) scope.names (cloFrom X.env.cells scope.names [])) s3.heap.objs.size X.env = ce at I4 pg pt pe ⊢
  have cL : ce.locals = s3.heap.objs.size := by subst hce; rfl
  have cF : ce.frame = X.env.frame := by subst hce; rfl
  generalize hH3 : upd H2 D (.lst []) = H3 at I3 I4 pg pt pe w0 nfp f3
  generalize hs4 : ({ s3 with heap := pushCells (s3.heap.push { cls := .type "dict", data := .dict #[] }) scope.names } : Shared) = s4 at I4 ⊢
  have I4 : Inv (blkE X s3 H3 scope ce fp E) [] (wipe σ (own.map (·.2))) H3 s4 := inv_to I4
  have st4 : tn 0 s4.heap := T.keep _ _ _ st3 fun b _ o e => by rw [← hs4]; exact pushCells_keeps _ _ _ _ (Heap.get?_push_of_some _ e)
  have stat : ∀ {σ' : L2.St} {H' : Hp} {s' : Shared}, Inv (blkE X s3 H3 scope ce fp E) [] σ' H' s' → (∀ b ∈ fp, H' b = none) → ∀ b ∈ fp, FpOk (blkE X s3 H3 scope ce fp E) [] H' b := fun {σ' H' s'} I' hn b hb =>
    ⟨hn b hb, (I'.ok.exf b hb).1, I'.ok.exfs b hb, .inl hb, fun x c e => (I'.ok.exf b hb).2 x c e, fun p hp => absurd (show p ∈ ([] : List (Addr × Obj)) ++ [] from hp) (by simp)⟩
  have out : ∀ e s', XeB X s3 H3 scope ce fp E e s' → notedBy (model X.prog X.w) X.A ce (fun e s'' => postE (model X.prog X.w) X.A X.xe Qf (.ref D) ce (.error e) s'') e s' := fun e s' x => by
    obtain ⟨pins', σ', H1, s1, Ib, c⟩ := x
    exact blk_leave hst hfe tk I3 (fun b hb => (f3 b hb).1) cL cF Ib c
  have loop : codeAny (model X.prog X.w) X.A (.compLoop (.ListComp elt [⟨tg, iter, ifs, 0⟩] scope pos) 0 (.ref it) (.ref D) ce) (postE (model X.prog X.w) X.A X.xe Qf (.ref D) ce) s4 := by
    refine compLoop_any (fun n s' => ∃ i H', Inv (blkE X s3 H3 scope ce fp E) [] (wipe σ (own.map (·.2))) H' s' ∧ tn i s'.heap ∧ (∀ b ∈ fp, H' b = none) ∧ W i n H') ?_ m0 ⟨0, H3, I4, st4, nfp, w0⟩
    rintro n s5 ⟨i, H5, I5, st5, n5, w5⟩
    rcases turn i n H5 w5 with ⟨stop, qq⟩ | ⟨go, Nx, hNx, step⟩
    · have td := T.done (blkE X s3 H3 scope ce fp E) rfl rfl rfl hc i [] s5 _ H5 (fun _ _ => False) I5 (stat I5 n5) st5 stop
      refine thnF td fun r s6 ⟨hr, I6⟩ => ?_
      subst hr
      have I7 : Inv X pins σ H5 s6 := I3.call' (ch := fp) I6.os I6.base I6.hok I6.bare fun b hb => ⟨(f3 b hb).1.2.2.2.1, (f3 b hb).1.2.1, (f3 b hb).1.2.2.2.2.1, (f3 b hb).1.2.2.2.2.2⟩
      have nC : H5 ce.locals = none := I6.free
      obtain ⟨m, hn, _⟩ := I6.loc
      have hn : s6.heap.Ns ce.locals m := hn
      exact hRR D ce s6 m H5 I7 qq hn (I3.fpOk (Nat.le_of_eq cL.symm) nC)
    · have ti := T.item (blkE X s3 H3 scope ce fp E) rfl rfl rfl hc i [] s5 _ H5 (fun _ _ => False) I5 (stat I5 n5) st5 go
      refine thnF ti fun r s6 ⟨u, hr, h6⟩ => ?_
      subst hr
      refine thnF h6 fun _ s7 ⟨x, H7, I7, r7, y7, st7, n7⟩ => ?_
      have I7' := I7.pinned (stat I7 n7) (T.obj _ _ st7)
      refine thnX (pg.run _ s7 _ H7 x u _ I7' r7 (step x H7 y7)) out fun _ s8 ⟨σ8, H8, I8, hw8, q8⟩ => ?_
      refine thnX (pt.run _ s8 σ8 H8 _ I8 q8) out fun b s9 ⟨H9, I9, q9⟩ => ?_
      have fin : ∀ {s' : Shared} {H' : Hp}, Inv (blkE X s3 H3 scope ce fp E) ([] ++ pinsAt fp s7.heap) σ8 H' s' → Nx H' → ∃ m, m < n ∧ ∃ i H', Inv (blkE X s3 H3 scope ce fp E) [] (wipe σ (own.map (·.2))) H' s' ∧ tn i s'.heap ∧ (∀ b ∈ fp, H' b = none) ∧ W i m H' := fun {s' H'} I' nx => by
        obtain ⟨m', hm, w'⟩ := hNx H' nx
        have pin' : ∀ b ∈ fp, ∀ o, s7.heap.get? b = some o → s'.heap.get? b = some o ∧ H' b = none := fun b hb o e =>
          let z := I'.pin (b, o) (List.mem_append_right _ (List.mem_append_right _ (mem_pinsAt hb e)))
          ⟨z.1, z.2.1⟩
        have hl : (wipe σ (own.map (·.2))).length = σ8.length := by rw [← hw8, wipe_length]
        refine ⟨m', hm, i + 1, H', (I'.unpinned (pins := [])).weak hl (fun j v e => ?_), T.keep _ _ _ st7 fun b hb o e => (pin' b hb o e).1, fun b hb => ?_, w'⟩
        · rw [← hw8] at e
          exact (wipe_some e).1
        · obtain ⟨o, e, _⟩ := T.obj _ _ st7 b hb
          exact (pin' b hb o e).2
      cases b with
      | false =>
        simp only [Bool.false_eq_true, if_false] at q9 ⊢
        exact fin I9 q9
      | true =>
        simp only [if_true] at q9 ⊢
        refine thnX (pe.run _ s9 σ8 H9 _ I9 q9) out fun z s10 ⟨yv, H10, I10, r10, acc, hD10, hz10, nx⟩ => ?_
        exact app_ok (X := blkE X s3 H3 scope ce fp E) I10 hD10 hz10 r10 fun s11 I11 => fin I11 nx
  exact codeAny_compStart_list loop (T.self X.A 0 _ _ _ st4 loop)
/-- as a value -/
theorem pe_lcE {elt tg iter : Expr} {ifs : List Expr} {scope : Scope} {own : List (Str × Nat)} {pos : Pos} {wi : TI} {g : TG} {tt : TT} {te : TE} {E : XK}
    (hst : X.stack = X.env :: X.outer) (hfe : X.env.frame = some X.env.locals) (tk : Takes X (fun cls d _ H => E cls d H)) (hc : X.calm = true) (hN : X.N.Nodup) (hi : PI X tg iter wi) (ok : BlkOk X.N X.env.scope scope own)
    (hg : ∀ (s : Shared) (H : Hp) (C : Addr) (cl : List (Str × Addr)) (fp : List Addr), PG (blkE X s H scope (compEnvC scope cl C X.env) fp E) tg g) (ht : ∀ (s : Shared) (H : Hp) (C : Addr) (cl : List (Str × Addr)) (fp : List Addr), PTs (blkE X s H scope (compEnvC scope cl C X.env) fp E) ifs tt)
    (he : ∀ (s : Shared) (H : Hp) (C : Addr) (cl : List (Str × Addr)) (fp : List Addr), PE (blkE X s H scope (compEnvC scope cl C X.env) fp E) elt te) (hs : ∀ x, foldedSetIterable iter X.env x = pure x := by intro _; rfl) :
    PE X (.ListComp elt [⟨tg, iter, ifs, 0⟩] scope pos) (tLc wi g tt te (own.map (·.2))) := by
  refine ⟨fun pins s σ H Q I h => ?_⟩
  rw [eval_ListComp]
  refine lc_coreE hst hfe tk hc hN I hi ok hg ht he hs h fun D ce s' m H' I' q hn f => ⟨m, hn, fun h'' sb => ?_⟩
  obtain ⟨f0, f1, f2, f3, f4, f5⟩ := f
  exact ⟨.ref D, H', I'.turned (t' := s'.toks) (fun b o hb e => (sb.2 b hb).trans e) f0 f1 f3 f4 f5, rfl, q⟩
end
/-! ### several except clauses, some of them with a name -/
def wMix (K : PySem.W.Frag) (Wout : WX) (D : Ends) : List (Value × Option Nat × (Addr → Value → Option Addr → TS)) → WX
  | [] => Wout
  | (c, none, ts) :: r => fun cls d σ H => ∃ b, PySem.W.exmOne K cls c = some b ∧ (b = true → ∀ a, H a = none → ts a cls d D σ H) ∧ (b = false → wMix K Wout D r cls d σ H)
  | (c, some i, ts) :: r => fun cls d σ H => ∃ b, PySem.W.exmOne K cls c = some b ∧ (b = true → ∀ a, H a = none → ts a cls d { nx := fun σ' H' => D.nx (σ'.set i none) H', rt := D.rt, bk := fun σ' H' => D.bk (σ'.set i none) H', ct := fun σ' H' => D.ct (σ'.set i none) H' } (σ.set i (some (.ref a))) H) ∧ (b = false → wMix K Wout D r cls d σ H)
inductive HdsM (X : Cx) : List ExceptHandler → List (Value × Option Nat × (Addr → Value → Option Addr → TS)) → Prop
  | nil : HdsM X [] []
  | bare {x : Str} {c : Value} {ts : Addr → Value → Option Addr → TS} {b₀ : Stmt} {suite : List Stmt} {np pos' : Pos} {hds : List ExceptHandler} {l : List (Value × Option Nat × (Addr → Value → Option Addr → TS))} (hc : Names X x c)
      (hsu : ∀ (a : Addr) (oe : Obj) (cls : Value) (d : Option Addr) (pn : List (Addr × Obj)), Zc cls d oe → (∃ vs, oe.data = .fields vs) → PSs (X.suite a ((a, oe) :: pn)) (b₀ :: suite) (ts a cls d)) (r : HdsM X hds l) :
      HdsM X (.ExceptHandler (some (.Name x np)) none (b₀ :: suite) pos' :: hds) ((c, none, ts) :: l)
  | named {x n : Str} {c : Value} {i : Nat} {ts : Addr → Value → Option Addr → TS} {b₀ : Stmt} {suite : List Stmt} {np pos' : Pos} {hds : List ExceptHandler} {l : List (Value × Option Nat × (Addr → Value → Option Addr → TS))} (hN : X.N.Nodup) (hi : X.N[i]? = some n) (hln : X.env.kindOf n = some .local) (hc : Names X x c)
      (hsu : ∀ (a : Addr) (oe : Obj) (cls : Value) (d : Option Addr) (pn : List (Addr × Obj)), Zc cls d oe → (∃ vs, oe.data = .fields vs) → PSs (X.suite a ((a, oe) :: pn)) (b₀ :: suite) (ts a cls d)) (r : HdsM X hds l) :
      HdsM X (.ExceptHandler (some (.Name x np)) (some n) (b₀ :: suite) pos' :: hds) ((c, some i, ts) :: l)
section
variable {X : Cx} {body : List Stmt} {h₀ : ExceptHandler} {hds : List ExceptHandler} {l : List (Value × Option Nat × (Addr → Value → Option Addr → TS))} {pos : Pos} {tb : WX → TS} {Wout : WX}
theorem ps_try_mix (hs : X.stack = X.env :: X.outer) (hf : X.env.frame = some X.env.locals) (tk : Takes X Wout)
    (hb : ∀ (W : WX) (pn : List (Addr × Obj)) (xe : Value → Shared → Prop), Takes (X.tr pn xe) W → PassesOwn (model X.prog X.w) X.A X.env xe → PSs (X.tr pn xe) body (tb W))
    (hh : HdsM X (h₀ :: hds) l) : PS X (.Try body (h₀ :: hds) [] [] pos) (fun D σ H => tb (wMix X.K Wout D l) D σ H) := by
  refine ⟨fun pins s σ H D I h => ?_⟩
  have ok := I.ok
  have hfr : X.A.frames = some (X.env :: X.outer) := by rw [ok.frames, hs]
  refine wpAny_Try_except ?_
  refine wpAny_mono ((hb (wMix X.K Wout D l) (X.pn ++ pins) (fun e s₁ => wpAny (model X.prog X.w) X.A (noteFrame e X.env) (fun _ s₂ => wpAny (model X.prog X.w) X.A (setFlight e none) (fun _ s₃ =>
    wpAny (model X.prog X.w) X.A (handleBy e X.env (h₀ :: hds)) (SP X pins D) X.xe s₃) X.xe s₂) X.xe s₁) (fun u s' xx => ?_) PassesOwn.looking).run [] s σ H D (I.toTry _) h) (fun f s1 hsp => ?_) (fun e s1 he => he)
  · -- the catch
    obtain ⟨a, B, sI, pins', σ', H', cls, d, rfl, J', nb, up, sky, na, os, ag, w⟩ := xx
    have J : Inv X pins σ' H' sI := J'.ofTry ok
    have sky' : Sky B (X.env :: X.outer) a (Zc cls d) X.env.locals s'.heap := by rw [← hs]; exact sky
    show wpAny (model X.prog X.w) X.A (noteFrame (.ref a) X.env) _ _ _
    refine Sky.land Zc.steady hfr hf sky' fun h3 fl3 up3 => ?_
    have J3 : Inv X pins σ' H' { s' with heap := h3 } := J.landed nb fl3.1 (up.trans up3) os ag
    obtain ⟨oe3, vs3, he3, hz3, hd3⟩ := fl3.there
    have notFr : ∀ {h : Heap} {o : Obj} {vs : Array Value}, h.FunFrames B (X.env :: X.outer) → h.get? a = some o → o.data = .fields vs → a ∉ frs (X.env :: X.outer) := fun {h o vs} ff e dd hm => by
      obtain ⟨_, o', e', hnf⟩ := ff.mem hm
      rw [e] at e'; cases e'
      exact hnf _ dd
    have nfr := notFr fl3.2.2.1 he3 hd3
    have nL : a ≠ X.env.locals := fun z => nfr (List.mem_filterMap.mpr ⟨X.env, List.mem_cons_self, by rw [hf, z]⟩)
    have nF : a ∉ X.fs := fun hm => by
      obtain ⟨e, he, q⟩ := List.mem_filterMap.mp hm
      exact nfr (List.mem_filterMap.mpr ⟨e, List.mem_cons_of_mem _ he, q⟩)
    have S3 := J3.suite he3 hd3 na nL nF
    have go : ∀ {hds' : List ExceptHandler} {l' : List (Value × Option Nat × (Addr → Value → Option Addr → TS))}, HdsM X hds' l' → wMix X.K Wout D l' cls d σ' H' →
        wpAny (model X.prog X.w) X.A (handleBy (.ref a) X.env hds') (SP X pins D) X.xe { s' with heap := h3 } := by
      intro hds' l' hk
      induction hk with
      | nil =>
        intro w
        refine wpAny_handleBy_nil ?_
        obtain ⟨k1, k2, k3, oe, vs, T, oT, ts', he, hz, hd, h1, hr⟩ := id fl3
        unfold PySem.passOn
        refine wpAny_bind (wpAny_field he hd h1 ?_)
        rw [if_neg (show ¬ ((Value.ref T == Value.none) = true) from by simp)]
        have fin : wpAny (model X.prog X.w) X.A (setFlight (.ref a) X.env.frame) (fun _ s4 => wpAny (model X.prog X.w) X.A (throw (.ref a) : Sem Flow) (SP X pins D) X.xe s4) X.xe { s' with heap := h3 } := by
          rw [hf]
          refine HandSPX.setFlight_upZ fl3 fun h4 hh4 up4 => wpAny_throw (tk _ _ ?_)
          exact ⟨a, B, sI, pins, σ', H', cls, d, rfl, J, nb, (up.trans up3).trans up4, .inr (.inr (by rw [hs]; exact hh4)), na, os, ag, w⟩
        first
          | exact wpAny_bind (wpAny_pure (wpAny_bind fin))
          | exact wpAny_bind fin
      | @bare x c ts b₀ suite np pos' hds2 l2 hc hsu r ih =>
        intro w
        obtain ⟨b, hb1, hyes, hno⟩ := w
        refine wpAny_handleBy_cons (codeAny_handlers_test ?_) (by intro q; cases q)
        have LT : PySem.W.Looks (model X.prog X.w) h3 (typeOf (.ref a)) cls := fun A Q E s k q => wpAny_typeOf_ref (k _ _ he3) (by rw [hz3.1]; exact q)
        have LM := PySem.W.exm_one (M := model X.prog X.w) (J3.kIn) LT hb1
        have test : ∀ {Q : Value → Shared → Prop} {E : Value → Shared → Prop}, Q c { s' with heap := h3 } → wpAny (model X.prog X.w) (X.A.mark (some (.ref a))) (eval (.Name x np) X.env) Q E { s' with heap := h3 } := fun {Q E} q => by
          obtain ⟨hg, hdbg, hm | ⟨hm, hv, hnn⟩⟩ := hc
          · exact ld_glob (X := X.suite a ((a, oe3) :: (X.pn ++ pins))) S3 hg hm q hdbg
          · exact ld_blt (X := X.suite a ((a, oe3) :: (X.pn ++ pins))) S3 hg hm hv q hnn hdbg
        refine test (LM.here ?_)
        cases b with
        | true =>
          refine codeAny_handlers_suite ?_
          refine HandSPX.lands_againZ fl3 fun h4 fl4 up4 => ?_
          have J4 : Inv X pins σ' H' { s' with heap := h4 } := J.landed nb fl4.1 ((up.trans up3).trans up4) os ag
          obtain ⟨oe4, vs4, he4, hz4, hd4⟩ := fl4.there
          have S4 := J4.suite he4 hd4 na nL nF
          refine wpAny_mono ((hsu a oe4 cls d (X.pn ++ pins) hz4 ⟨_, hd4⟩).run [] _ _ H' _ S4 (hyes rfl a na)) (fun f s6 hsp => ?_) (fun _ _ z => False.elim z)
          cases f with
          | next =>
            obtain ⟨σ6, H6, S6, q6⟩ := hsp
            exact ⟨_, _, S6.unsuite ok, q6⟩
          | brk =>
            obtain ⟨σ6, H6, S6, q6⟩ := hsp
            exact ⟨_, _, S6.unsuite ok, q6⟩
          | cont =>
            obtain ⟨σ6, H6, S6, q6⟩ := hsp
            exact ⟨_, _, S6.unsuite ok, q6⟩
          | ret u =>
            obtain ⟨v6, σ6, H6, S6, r6, q6⟩ := hsp
            exact ⟨_, _, _, S6.unsuite ok, r6, q6⟩
        | false =>
          show wpAny _ X.A (handleBy (.ref a) X.env hds2) _ _ _
          exact ih (hno rfl)
      | @named x n c i ts b₀ suite np pos' hds2 l2 hN hi hln hc hsu r ih =>
        intro w
        obtain ⟨b, hb1, hyes, hno⟩ := w
        have hloc : Loc X.env.scope n := .inl hln
        refine wpAny_handleBy_cons (codeAny_handlers_test ?_) (by intro q; cases q)
        have LT : PySem.W.Looks (model X.prog X.w) h3 (typeOf (.ref a)) cls := fun A Q E s k q => wpAny_typeOf_ref (k _ _ he3) (by rw [hz3.1]; exact q)
        have LM := PySem.W.exm_one (M := model X.prog X.w) (J3.kIn) LT hb1
        have test : ∀ {Q : Value → Shared → Prop} {E : Value → Shared → Prop}, Q c { s' with heap := h3 } → wpAny (model X.prog X.w) (X.A.mark (some (.ref a))) (eval (.Name x np) X.env) Q E { s' with heap := h3 } := fun {Q E} q => by
          obtain ⟨hg, hdbg, hm | ⟨hm, hv, hnn⟩⟩ := hc
          · exact ld_glob (X := X.suite a ((a, oe3) :: (X.pn ++ pins))) S3 hg hm q hdbg
          · exact ld_blt (X := X.suite a ((a, oe3) :: (X.pn ++ pins))) S3 hg hm hv q hnn hdbg
        refine test (LM.here ?_)
        cases b with
        | true =>
          refine codeAny_handlers_suite_as ?_
          refine HandSPX.lands_againZ fl3 fun h4 fl4 up4 => ?_
          have J4 : Inv X pins σ' H' { s' with heap := h4 } := J.landed nb fl4.1 ((up.trans up3).trans up4) os ag
          obtain ⟨oe4, vs4, he4, hz4, hd4⟩ := fl4.there
          have S4 := J4.suite he4 hd4 na nL nF
          refine store_ok (X := X.suite a ((a, oe4) :: (X.pn ++ pins))) (v := .ref a) S4 hN hi hloc rfl (fun s5 S5 => ?_) (.inr hln)
          refine wpAny_mono ((hsu a oe4 cls d (X.pn ++ pins) hz4 ⟨_, hd4⟩).run [] s5 _ H' _ S5 (hyes rfl a na)) (fun f s6 hsp => ?_) (fun _ _ z => False.elim z)
          have end_ : ∀ {σ6 : L2.St} {H6 : Hp} {Q : Shared → Prop}, Inv (X.suite a ((a, oe4) :: (X.pn ++ pins))) [] σ6 H6 s6 → (∀ s7, Inv X pins (σ6.set i none) H6 s7 → Q s7) →
              wpAny (model X.prog X.w) X.A (do bindName X.env n .none; unbindBehindTheSuite X.env n pos') (fun _ s7 => Q s7) X.xe s6 := fun {σ6 H6 Q} S6 hq => gone_ok (S6.unsuite ok) hN hi hln hq
          cases f with
          | next =>
            obtain ⟨σ6, H6, S6, q6⟩ := hsp
            exact end_ S6 fun s7 J7 => ⟨_, _, J7, q6⟩
          | brk =>
            obtain ⟨σ6, H6, S6, q6⟩ := hsp
            exact end_ S6 fun s7 J7 => ⟨_, _, J7, q6⟩
          | cont =>
            obtain ⟨σ6, H6, S6, q6⟩ := hsp
            exact end_ S6 fun s7 J7 => ⟨_, _, J7, q6⟩
          | ret u =>
            obtain ⟨v6, σ6, H6, S6, r6, q6⟩ := hsp
            exact end_ S6 fun s7 J7 => ⟨_, _, _, J7, r6, q6⟩
        | false =>
          show wpAny _ X.A (handleBy (.ref a) X.env hds2) _ _ _
          exact ih (hno rfl)
    exact go hh w
  · cases f with
    | next =>
      obtain ⟨σ', H', J', q⟩ := hsp
      exact wpAny_execs_nil ⟨σ', H', J'.ofTry ok, q⟩
    | brk =>
      obtain ⟨σ', H', J', q⟩ := hsp
      exact ⟨σ', H', J'.ofTry ok, q⟩
    | cont =>
      obtain ⟨σ', H', J', q⟩ := hsp
      exact ⟨σ', H', J'.ofTry ok, q⟩
    | ret u =>
      obtain ⟨v, σ', H', J', r, q⟩ := hsp
      exact ⟨v, σ', H', J'.ofTry ok, r, q⟩
end
/-- what a callee lets out, this def lets out -/
theorem passX {X : Cx} {E : XK} (hs : X.stack = X.env :: X.outer) (hf : X.env.frame = some X.env.locals) (hex : X.ex = []) {E₁ : Value → Shared → Prop}
    (hx : X.xe = fun e s' => wpAny (model X.prog X.w) X.A (leaving X.env e) (fun _ s'' => L2.CX X.prog X.w X.outer X.H_0 X.s_0 E e s'') E₁ s') : Passes (L2.CX X.prog X.w) X E :=
  passes_call (takes_of hs hf hex hx) fun _ _ _ _ h => h
/-! ### within a try: rules that name the fragment -/
def rJoin (K : PySem.W.Frag) : V → List V → Hp → VK → Prop := fun x xs H Q => ∃ a p, ∃ ys : List Str, x = .str a ∧ xs = [.ref p] ∧ (SqL K H p (ys.map V.str) ∨ SqT K H p (ys.map V.str)) ∧ (ys.map (·.length)).sum + ys.length * a.length ≤ 16777216 ∧ Q (.str (Txt.join a ys)) H
theorem pe_joinK {X : Cx} {K : PySem.W.Frag} {o e : Expr} {to te : TE} {apos pos : Pos} (hK : X.K = K) (ho : PE X o to) (he : PE X e te) (hs : starEach [e] X.env = [(false, eval e X.env)] := by rfl) (hbase : attributeBase o "join" X.env (eval o X.env) = eval o X.env := by rfl) (hline : (apos.endLine == pos.line) = true := by rfl) :
    PE X (.Call (.Attribute o "join" apos) [e] [] pos) (tM1 (rJoin K) to te) := by
  subst hK
  exact pe_join ho he hs hbase hline
end HAH
namespace TP
open PySem PySem.Spec PyProof.Rows L2 HX HB HG HU HH HD HS
def topS (i : Nat) : Stmt := PySem.Challenge.pw_nestyard_k80_figures_and_names_in_texts.main.body.getD i (.Pass ⟨0, 0, 0, 0⟩)
abbrev s_isname : Stmt := topS 3
theorem sc_isname : FnScope ["thing", "sign"] ["thing"] (defScope s_isname) := ⟨rfl, rfl, rfl, by decide +kernel, rfl, by decide +kernel, by decide +kernel⟩

abbrev s_isnum : Stmt := topS 4
theorem sc_isnum : FnScope ["thing"] ["thing"] (defScope s_isnum) := ⟨rfl, rfl, rfl, by decide +kernel, rfl, by decide +kernel, by decide +kernel⟩

abbrev s_iscalc : Stmt := topS 5
theorem sc_iscalc : FnScope ["thing"] ["thing"] (defScope s_iscalc) := ⟨rfl, rfl, rfl, by decide +kernel, rfl, by decide +kernel, by decide +kernel⟩

abbrev s_bodies : Stmt := topS 16
theorem sc_bodies : FnScope ["row", "kind", "part"] ["row"] (defScope s_bodies) := ⟨rfl, rfl, rfl, by decide +kernel, rfl, by decide +kernel, by decide +kernel⟩

abbrev s_ispart : Stmt := topS 17
theorem sc_ispart : FnScope ["kind", "thing", "known", "around", "least", "most", "words", "name", "word"] ["kind", "thing", "known", "around"] (defScope s_ispart) := ⟨rfl, rfl, rfl, by decide +kernel, rfl, by decide +kernel, by decide +kernel⟩

abbrev s_isrow : Stmt := topS 18
theorem sc_isrow : FnScope ["row", "known", "around", "word", "parts", "kind", "part"] ["row", "known", "around"] (defScope s_isrow) := ⟨rfl, rfl, rfl, by decide +kernel, rfl, by decide +kernel, by decide +kernel⟩

abbrev s_around : Stmt := topS 19
theorem sc_around : FnScope ["row", "around", "name", "word"] ["row", "around"] (defScope s_around) := ⟨rfl, rfl, rfl, by decide +kernel, rfl, by decide +kernel, by decide +kernel⟩

abbrev s_wrong : Stmt := topS 20
theorem sc_wrong : FnScope ["body", "place", "known", "around", "oftens", "at", "row", "here", "more", "which", "inner", "found"] ["body", "place", "known", "around", "oftens"] (defScope s_wrong) := ⟨rfl, rfl, rfl, by decide +kernel, rfl, by decide +kernel, by decide +kernel⟩

abbrev s_first : Stmt := topS 21
theorem sc_first : FnScope ["body", "cells", "locks", "channels"] ["body", "cells", "locks", "channels"] (defScope s_first) := ⟨rfl, rfl, rfl, by decide +kernel, rfl, by decide +kernel, by decide +kernel⟩

abbrev s_places : Stmt := topS 22
theorem sc_places : FnScope ["body", "place", "found", "at", "row", "here", "which", "inner"] ["body", "place"] (defScope s_places) := ⟨rfl, rfl, rfl, by decide +kernel, rfl, by decide +kernel, by decide +kernel⟩

abbrev s_sizes : Stmt := topS 31
theorem sc_sizes : FnScope ["thing", "least", "most", "name", "size"] ["thing", "least", "most"] (defScope s_sizes) := ⟨rfl, rfl, rfl, by decide +kernel, rfl, by decide +kernel, by decide +kernel⟩

abbrev s_locks : Stmt := topS 32
theorem sc_locks : FnScope ["thing", "name"] ["thing"] (defScope s_locks) := ⟨rfl, rfl, rfl, by decide +kernel, rfl, by decide +kernel, by decide +kernel⟩

abbrev s_np : Stmt := inClass (topS 8) 0
theorem sc_np : FnScope ["self", "place"] ["self", "place"] (defScope s_np) := ⟨rfl, rfl, rfl, by decide +kernel, rfl, by decide +kernel, by decide +kernel⟩

abbrev s_prog : Stmt := inClass (topS 34) 0
theorem sc_prog : FnScope ["self", "body", "cells", "locks", "channels", "first", "keys", "widths", "wrong"] ["self", "body", "cells", "locks", "channels"] (defScope s_prog) := ⟨rfl, rfl, rfl, by decide +kernel, rfl, by decide +kernel, by decide +kernel⟩

abbrev s_begun : Stmt := topS 41
theorem sc_begun : FnScope ["_law_script", "_law_great", "_law_cell"] ["_law_script"] (defScope s_begun) := ⟨rfl, rfl, rfl, by decide +kernel, rfl, by decide +kernel, by decide +kernel⟩

abbrev s_next : Stmt := topS 42
theorem sc_next : FnScope ["_law_draw", "_law_size", "_law_number", "_law_turn", "_law_stock", "_law_made", "_law_prime"] ["_law_draw", "_law_size"] (defScope s_next) := ⟨rfl, rfl, rfl, by decide +kernel, rfl, by decide +kernel, by decide +kernel⟩

abbrev s_name : Stmt := topS 43
theorem sc_name : FnScope ["_law_draw", "_law_own", "_law_name_here", "_law_many", "_law_way", "_law_letters", "_law_k"] ["_law_draw"] (defScope s_name) := ⟨rfl, rfl, rfl, by decide +kernel, rfl, by decide +kernel, by decide +kernel⟩

abbrev s_isfig : Stmt := topS 37
theorem sc_isfig : FnScope ["word", "figures", "sign"] ["word"] (defScope s_isfig) := ⟨rfl, rfl, rfl, by decide +kernel, rfl, by decide +kernel, by decide +kernel⟩

abbrev s_rinit : Stmt := inClass (topS 38) 0
theorem sc_rinit : FnScope ["self", "text", "row", "word"] ["self", "text"] (defScope s_rinit) := ⟨rfl, rfl, rfl, by decide +kernel, rfl, by decide +kernel, by decide +kernel⟩

abbrev s_peek : Stmt := inClass (topS 38) 1
theorem sc_peek : FnScope ["self"] ["self"] (defScope s_peek) := ⟨rfl, rfl, rfl, by decide +kernel, rfl, by decide +kernel, by decide +kernel⟩

abbrev s_takeif : Stmt := inClass (topS 38) 2
theorem sc_takeif : FnScope ["self", "good", "word"] ["self", "good"] (defScope s_takeif) := ⟨rfl, rfl, rfl, by decide +kernel, rfl, by decide +kernel, by decide +kernel⟩

abbrev s_takeword : Stmt := inClass (topS 38) 3
theorem sc_takeword : FnScope ["self", "word"] ["self", "word"] (defScope s_takeword) := ⟨rfl, rfl, rfl, by decide +kernel, rfl, by decide +kernel, by decide +kernel⟩

abbrev s_takename : Stmt := inClass (topS 38) 4
theorem sc_takename : FnScope ["self"] ["self"] (defScope s_takename) := ⟨rfl, rfl, rfl, by decide +kernel, rfl, by decide +kernel, by decide +kernel⟩

abbrev s_takenum : Stmt := inClass (topS 38) 5
theorem sc_takenum : FnScope ["self"] ["self"] (defScope s_takenum) := ⟨rfl, rfl, rfl, by decide +kernel, rfl, by decide +kernel, by decide +kernel⟩

abbrev s_takecalc : Stmt := inClass (topS 38) 6
theorem sc_takecalc : FnScope ["self", "kind", "one", "other"] ["self"] (defScope s_takecalc) := ⟨rfl, rfl, rfl, by decide +kernel, rfl, by decide +kernel, by decide +kernel⟩

abbrev s_takepart : Stmt := inClass (topS 38) 7
theorem sc_takepart : FnScope ["self", "kind", "rows"] ["self", "kind"] (defScope s_takepart) := ⟨rfl, rfl, rfl, by decide +kernel, rfl, by decide +kernel, by decide +kernel⟩

abbrev s_takerows : Stmt := inClass (topS 38) 8
theorem sc_takerows : FnScope ["self", "last", "rows", "word", "kind"] ["self", "last"] (defScope s_takerows) := ⟨rfl, rfl, rfl, by decide +kernel, rfl, by decide +kernel, by decide +kernel⟩

abbrev s_readprog : Stmt := topS 39
theorem sc_readprog : FnScope ["text", "reader", "cells", "locks", "channels", "twice", "kind", "name", "sizes", "rows"] ["text"] (defScope s_readprog) := ⟨rfl, rfl, rfl, by decide +kernel, rfl, by decide +kernel, by decide +kernel⟩

abbrev s_nt : Stmt := inClass (topS 9) 0
theorem sc_nt : FnScope ["self", "at"] ["self", "at"] (defScope s_nt) := ⟨rfl, rfl, rfl, by decide +kernel, rfl, by decide +kernel, by decide +kernel⟩

abbrev s_ltold : Stmt := topS 44
theorem sc_ltold : FnScope ["_law_words", "_law_at", "e"] ["_law_words"] (defScope s_ltold) := ⟨rfl, rfl, rfl, by decide +kernel, rfl, by decide +kernel, by decide +kernel⟩

abbrev s_lrows : Stmt := topS 45
theorem sc_lrows : FnScope ["_law_draw", "_law_name_here", "_law_number", "_law_other", "_law_tell", "_law_sums", "_law_body", "_law_rows_here"] ["_law_draw"] (defScope s_lrows) := ⟨rfl, rfl, rfl, by decide +kernel, rfl, by decide +kernel, by decide +kernel⟩

abbrev s_lbad : Stmt := topS 46
theorem sc_lbad : FnScope ["_law_kind", "_law_some"] ["_law_kind"] (defScope s_lbad) := ⟨rfl, rfl, rfl, by decide +kernel, rfl, by decide +kernel, by decide +kernel⟩

abbrev s_lgood : Stmt := topS 47
theorem sc_lgood : FnScope ["_law_draw", "_law_kind", "_law_names", "_law_numbers"] ["_law_draw", "_law_kind"] (defScope s_lgood) := ⟨rfl, rfl, rfl, by decide +kernel, rfl, by decide +kernel, by decide +kernel⟩

abbrev s_law : Stmt := topS 48
theorem sc_law : FnScope ["_law_script", "_law_draw", "_law_rows_here", "_law_order", "_law_row", "_law_told_here", "_law_words", "_law_at", "_law_word", "_law_kind", "_law_some", "_law_bad_here", "_law_other"] ["_law_script"] (defScope s_law) := ⟨rfl, rfl, rfl, by decide +kernel, rfl, by decide +kernel, by decide +kernel⟩

structure Tp (K : PySem.W.Frag) (w : World) (mg : Str → Option Value) where
  C_YardError : Addr
  gC_YardError : mg "YardError" = some (.ref C_YardError)
  bs_YardError : HY.BaseI K C_YardError
  C_NoProgram : Addr
  gC_NoProgram : mg "NoProgram" = some (.ref C_NoProgram)
  x_NoProgram : OexC K C_NoProgram
  xf_NoProgram : XfC K C_NoProgram
  ee_NoProgram : PySem.W.exmOne K (.ref C_NoProgram) (.ref C_NoProgram) = some true
  na_NoProgram_place : NoAttr K C_NoProgram "place"
  C_Program : Addr
  gC_Program : mg "Program" = some (.ref C_Program)
  cl_Program : Cls K C_Program
  na_Program_spots : NoAttr K C_Program "spots"
  na_Program_tree : NoAttr K C_Program "tree"
  na_Program_first : NoAttr K C_Program "first"
  na_Program_bolts : NoAttr K C_Program "bolts"
  na_Program_widths : NoAttr K C_Program "widths"
  C_Reader : Addr
  gC_Reader : mg "Reader" = some (.ref C_Reader)
  cl_Reader : Cls K C_Reader
  na_Reader_left : NoAttr K C_Reader "left"
  na_Reader_at : NoAttr K C_Reader "at"
  C_NoText : Addr
  gC_NoText : mg "NoText" = some (.ref C_NoText)
  x_NoText : OexC K C_NoText
  xf_NoText : XfC K C_NoText
  ee_NoText : PySem.W.exmOne K (.ref C_NoText) (.ref C_NoText) = some true
  na_NoText_at : NoAttr K C_NoText "at"
  ex_NoProgram_NoText : PySem.W.exmOne K (.ref C_NoProgram) (.ref C_NoText) = some false
  f_isname : Addr
  fd_isname : FuncData
  D_isname : Df K mg "is_name" "is_name" s_isname ["thing"] f_isname fd_isname
  f_isnum : Addr
  fd_isnum : FuncData
  D_isnum : Df K mg "is_number" "is_number" s_isnum ["thing"] f_isnum fd_isnum
  f_iscalc : Addr
  fd_iscalc : FuncData
  D_iscalc : Df K mg "is_calc" "is_calc" s_iscalc ["thing"] f_iscalc fd_iscalc
  f_bodies : Addr
  fd_bodies : FuncData
  D_bodies : Df K mg "bodies_of" "bodies_of" s_bodies ["row"] f_bodies fd_bodies
  f_ispart : Addr
  fd_ispart : FuncData
  D_ispart : Df K mg "is_part" "is_part" s_ispart ["kind", "thing", "known", "around"] f_ispart fd_ispart
  f_isrow : Addr
  fd_isrow : FuncData
  D_isrow : Df K mg "is_row" "is_row" s_isrow ["row", "known", "around"] f_isrow fd_isrow
  f_around : Addr
  fd_around : FuncData
  D_around : Df K mg "around_in" "around_in" s_around ["row", "around"] f_around fd_around
  f_wrong : Addr
  fd_wrong : FuncData
  D_wrong : Df K mg "wrong_in" "wrong_in" s_wrong ["body", "place", "known", "around", "oftens"] f_wrong fd_wrong
  f_first : Addr
  fd_first : FuncData
  dv_first_cells : Addr
  dt_first_cells : ∀ H : Hp, SqT K H dv_first_cells []
  dv_first_locks : Addr
  dt_first_locks : ∀ H : Hp, SqT K H dv_first_locks []
  dv_first_channels : Addr
  dt_first_channels : ∀ H : Hp, SqT K H dv_first_channels []
  D_first : FunD K "first_wrong" "first_wrong" (defArgs s_first) (defBody s_first) (defScope s_first) [] [("cells", V.ref dv_first_cells), ("locks", V.ref dv_first_locks), ("channels", V.ref dv_first_channels)] f_first fd_first
  g_first : mg "first_wrong" = some (.ref f_first)
  f_places : Addr
  fd_places : FuncData
  D_places : Df K mg "places_in" "places_in" s_places ["body", "place"] f_places fd_places
  f_sizes : Addr
  fd_sizes : FuncData
  D_sizes : Df K mg "are_sizes" "are_sizes" s_sizes ["thing", "least", "most"] f_sizes fd_sizes
  f_locks : Addr
  fd_locks : FuncData
  D_locks : Df K mg "are_locks" "are_locks" s_locks ["thing"] f_locks fd_locks
  f_np : Addr
  fd_np : FuncData
  D_np : Fun K "__init__" "NoProgram.__init__" s_np f_np fd_np
  b_np : L2.Binds K fd_np ["self", "place"] []
  m_np : Meth K C_NoProgram "__init__" f_np
  i_NoProgram : PySem.W.findIn K (.ref C_NoProgram) "__init__" = some (some (.ref f_np))
  ti_NoProgram : PySem.W.typeIn K (.ref f_np) = some (.type "function")
  f_prog : Addr
  fd_prog : FuncData
  D_prog : FunD K "__init__" "Program.__init__" (defArgs s_prog) (defBody s_prog) (defScope s_prog) [] [("cells", V.non), ("locks", V.non), ("channels", V.non)] f_prog fd_prog
  m_prog : Meth K C_Program "__init__" f_prog
  mk_Program : Mk K C_Program f_prog
  f_begun : Addr
  fd_begun : FuncData
  D_begun : Df K mg "_law_begun" "_law_begun" s_begun ["_law_script"] f_begun fd_begun
  f_next : Addr
  fd_next : FuncData
  D_next : Df K mg "_law_next" "_law_next" s_next ["_law_draw", "_law_size"] f_next fd_next
  f_name : Addr
  fd_name : FuncData
  D_name : Df K mg "_law_name" "_law_name" s_name ["_law_draw"] f_name fd_name
  f_isfig : Addr
  fd_isfig : FuncData
  D_isfig : Df K mg "is_figures" "is_figures" s_isfig ["word"] f_isfig fd_isfig
  f_rinit : Addr
  fd_rinit : FuncData
  D_rinit : Fun K "__init__" "Reader.__init__" s_rinit f_rinit fd_rinit
  b_rinit : L2.Binds K fd_rinit ["self", "text"] []
  m_rinit : Meth K C_Reader "__init__" f_rinit
  mk_Reader : Mk K C_Reader f_rinit
  f_peek : Addr
  fd_peek : FuncData
  D_peek : Fun K "peek" "Reader.peek" s_peek f_peek fd_peek
  b_peek : L2.Binds K fd_peek ["self"] []
  m_peek : Meth K C_Reader "peek" f_peek
  f_takeif : Addr
  fd_takeif : FuncData
  D_takeif : Fun K "take_if" "Reader.take_if" s_takeif f_takeif fd_takeif
  b_takeif : L2.Binds K fd_takeif ["self", "good"] []
  m_takeif : Meth K C_Reader "take_if" f_takeif
  f_takeword : Addr
  fd_takeword : FuncData
  D_takeword : Fun K "take_word" "Reader.take_word" s_takeword f_takeword fd_takeword
  b_takeword : L2.Binds K fd_takeword ["self", "word"] []
  m_takeword : Meth K C_Reader "take_word" f_takeword
  f_takename : Addr
  fd_takename : FuncData
  D_takename : Fun K "take_name" "Reader.take_name" s_takename f_takename fd_takename
  b_takename : L2.Binds K fd_takename ["self"] []
  m_takename : Meth K C_Reader "take_name" f_takename
  f_takenum : Addr
  fd_takenum : FuncData
  D_takenum : Fun K "take_number" "Reader.take_number" s_takenum f_takenum fd_takenum
  b_takenum : L2.Binds K fd_takenum ["self"] []
  m_takenum : Meth K C_Reader "take_number" f_takenum
  f_takecalc : Addr
  fd_takecalc : FuncData
  D_takecalc : Fun K "take_calc" "Reader.take_calc" s_takecalc f_takecalc fd_takecalc
  b_takecalc : L2.Binds K fd_takecalc ["self"] []
  m_takecalc : Meth K C_Reader "take_calc" f_takecalc
  f_takepart : Addr
  fd_takepart : FuncData
  D_takepart : Fun K "take_part" "Reader.take_part" s_takepart f_takepart fd_takepart
  b_takepart : L2.Binds K fd_takepart ["self", "kind"] []
  m_takepart : Meth K C_Reader "take_part" f_takepart
  f_takerows : Addr
  fd_takerows : FuncData
  D_takerows : Fun K "take_rows" "Reader.take_rows" s_takerows f_takerows fd_takerows
  b_takerows : L2.Binds K fd_takerows ["self", "last"] []
  m_takerows : Meth K C_Reader "take_rows" f_takerows
  f_readprog : Addr
  fd_readprog : FuncData
  D_readprog : Df K mg "read_program" "read_program" s_readprog ["text"] f_readprog fd_readprog
  f_nt : Addr
  fd_nt : FuncData
  D_nt : Fun K "__init__" "NoText.__init__" s_nt f_nt fd_nt
  b_nt : L2.Binds K fd_nt ["self", "at"] []
  m_nt : Meth K C_NoText "__init__" f_nt
  i_NoText : PySem.W.findIn K (.ref C_NoText) "__init__" = some (some (.ref f_nt))
  ti_NoText : PySem.W.typeIn K (.ref f_nt) = some (.type "function")
  f_ltold : Addr
  fd_ltold : FuncData
  D_ltold : Df K mg "_law_told" "_law_told" s_ltold ["_law_words"] f_ltold fd_ltold
  f_lrows : Addr
  fd_lrows : FuncData
  D_lrows : Df K mg "_law_rows" "_law_rows" s_lrows ["_law_draw"] f_lrows fd_lrows
  f_lbad : Addr
  fd_lbad : FuncData
  D_lbad : Df K mg "_law_bad" "_law_bad" s_lbad ["_law_kind"] f_lbad fd_lbad
  f_lgood : Addr
  fd_lgood : FuncData
  D_lgood : Df K mg "_law_good" "_law_good" s_lgood ["_law_draw", "_law_kind"] f_lgood fd_lgood
  c_LETTERS : ∃ t : Tok, mg "LETTERS" = some (.str "abcdefghijklmnopqrstuvwxyz" t)
  a_KINDS : Addr
  c_KINDS : mg "KINDS" = some (.ref a_KINDS)
  t_KINDS : ∀ H : Hp, SqT K H a_KINDS [V.str "sum", V.str "minus", V.str "less"]
  a_PARTS : Addr
  c_PARTS : mg "PARTS" = some (.ref a_PARTS)
  d_PARTS : HH.DT K w a_PARTS [("put", [V.str "name", V.str "calc"]), ("read", [V.str "name", V.str "cell"]), ("write", [V.str "cell", V.str "calc"]), ("tell", [V.str "calc"]), ("send", [V.str "channel", V.str "calc"]), ("take", [V.str "name", V.str "channel"]), ("hold", [V.str "lock", V.str "body"]), ("rest", [V.str "rest"]), ("nest", [V.str "scope", V.str "body"]), ("within", [V.str "span", V.str "scope", V.str "body"]), ("start", [V.str "home", V.str "body"]), ("off", [V.str "entered"]), ("shield", [V.str "body"]), ("fail", [V.str "name"]), ("catch", [V.str "body", V.str "name", V.str "body"]), ("try", [V.str "body", V.str "body"]), ("if", [V.str "calc", V.str "body", V.str "body"]), ("often", [V.str "times", V.str "body"])]
  a_RANGES : Addr
  c_RANGES : mg "RANGES" = some (.ref a_RANGES)
  d_RANGES : HH.DT K w a_RANGES [("rest", [V.int 0, V.int 9]), ("span", [V.int 1, V.int 9]), ("times", [V.int 0, V.int 3])]
  c_MOST_DEEP : ∃ t : Tok, mg "MOST_DEEP" = some (.int (9) t)
  c_MOST_OFTEN : ∃ t : Tok, mg "MOST_OFTEN" = some (.int (2) t)
  c_MOST_ROWS : ∃ t : Tok, mg "MOST_ROWS" = some (.int (60) t)
  c_MOST_NAMES : ∃ t : Tok, mg "MOST_NAMES" = some (.int (4) t)
  a_NUMBERED : Addr
  c_NUMBERED : mg "NUMBERED" = some (.ref a_NUMBERED)
  t_NUMBERED : ∀ H : Hp, SqT K H a_NUMBERED [V.str "rest", V.str "span", V.str "times"]
  all : mg "all" = none
  bool : mg "bool" = none
  dict : mg "dict" = none
  enumerate : mg "enumerate" = none
  int : mg "int" = none
  isinstance : mg "isinstance" = none
  len : mg "len" = none
  list : mg "list" = none
  range : mg "range" = none
  set : mg "set" = none
  sorted : mg "sorted" = none
  str : mg "str" = none
  tuple : mg "tuple" = none
  zip : mg "zip" = none

/-! ### names and numbers, of any data -/
def isLow (c : Nat) : Bool := decide (97 ≤ c) && decide (c ≤ 122)
def isNameL (z : Str) : Bool := decide (1 ≤ z.length) && decide (z.length ≤ 6) && z.cps.toList.all isLow
def isNameD : PyData → Bool
  | .str z => isNameL z
  | _ => false
def isNumD : PyData → Bool
  | .int _ => true
  | _ => false
def isKindD : PyData → Bool
  | .str k => decide (k = "sum" ∨ k = "minus" ∨ k = "less")
  | _ => false
def isCalcD : PyData → Bool
  | .int _ => true
  | .str z => isNameL z
  | .tuple [k, a, b] => isKindD k && (isCalcD a && isCalcD b)
  | _ => false
theorem letters_mem (c : Nat) : decide (c ∈ ("abcdefghijklmnopqrstuvwxyz" : Str).cps.toList) = isLow c := by
  have e : ("abcdefghijklmnopqrstuvwxyz" : Str).cps.toList = (List.range 26).map (· + 97) := by decide +kernel
  rw [e]
  unfold isLow
  rw [← Bool.decide_and]
  congr 1
  simp only [List.mem_map, List.mem_range, eq_iff_iff]
  constructor
  · rintro ⟨j, hj, rfl⟩; omega
  · rintro ⟨h1, h2⟩; exact ⟨c - 97, by omega, by omega⟩
theorem kinds_in (s : Str) : inV (.str s) [.str "sum", .str "minus", .str "less"] = decide (s = "sum" ∨ s = "minus" ∨ s = "less") := by
  show (eqV (.str "sum") (.str s) || (eqV (.str "minus") (.str s) || (eqV (.str "less") (.str s) || false))) = _
  simp only [eqV, Bool.or_false, Bool.decide_or]
  have e : ∀ z : Str, (z == s) = decide (s = z) := fun z => by
    by_cases h : s = z
    · subst h; simp
    · rw [decide_eq_false h]; exact beq_eq_false_iff_ne.mpr (Ne.symm h)
  rw [e, e, e]
section
variable {P : Program} {w : World} {K : PySem.W.Frag} {mg : Str → Option Value} {base : Heap}
/-- of data: answers b, changes nothing -/
def spD (K : PySem.W.Frag) (f : PyData → Bool) : Sp := fun vs H Q _ => ∃ v d, vs = [v] ∧ Dp K H v d ∧ okD d = true ∧ ∀ H', Same H H' → Q (.bl (f d)) H'
theorem ok_isname (T : Tp K w mg) : FnOk P w K mg base CX0 1 T.f_isname T.fd_isname ["thing"] (spD K isNameD) := by
  refine T.D_isname.F.ok sc_isname (fun vs H Q E h => ?_) (fun cdv A outer s H vs Q E hr h => ?_)
  · obtain ⟨v, d, rfl, _⟩ := h
    rfl
  · obtain ⟨v, d, rfl, hd, hk, q⟩ := h
    refine ⟨_, (pss_cons (ps_if (PW.pt (pw_or (pt_not (pt_val (pe_callB call_isi (by rfl) T.isinstance (by decide +kernel) (pa_cons (pv 0) (pa_cons (pe_bltn (v := .ty "str") (by rfl) T.str (by decide +kernel) rfl) pa_nil))))) (pw_or1 (pt_not (pt_chain op_le op_le pe_int (pe_callB call_len_str (by rfl) T.len PySem.boot_len (pa_cons (pv 0) pa_nil)) pe_int)))))
  (pss_one (ps_ret pe_bl))
  pss_nil)
  (pss_one (ps_ret (pe_callB (cr_all rfl) (by rfl) T.all (by decide +kernel) (pa_cons (pe_lc (own := [("sign", 1)]) (g := gName 1) (by rfl) sc_isname.nd (pi_str (pv 0)) (blkOk_by (own := [("sign", 1)]) (N := ["thing", "sign"]) (sc := defScope s_isname) (by decide +kernel)) (fun _ _ _ _ _ => (pg_name (i := 1) sc_isname.nd rfl (.inl rfl))) (fun _ _ _ _ _ => pts_nil) (fun _ _ _ _ _ => (pe_cmpR op_in_sign (pv 1) (pe_gs (by rfl) T.c_LETTERS) rfl))) pa_nil))))), ?_⟩
    obtain ⟨ty, kin⟩ := dp_ty hd
    refine ⟨_, rfl, _, _, _, _, _, rfl, .ty "str", ty, kit_dat (by decide) kin, _, rfl, ?_⟩
    by_cases hs : kindD d = "str"
    · obtain ⟨z, rfl⟩ : ∃ z, d = .str z := by cases d <;> simp [kindD] at hs ⊢
      cases hd
      have hz : z.length ≤ 100000 := by simpa [okD] using hk
      refine ite0 (by rw [decide_eq_true hs]; rfl) ?_
      have q : ∀ H', Same H H' → Q (.bl (isNameL z)) H' := q
      refine ⟨_, rfl, _, rfl, Evl.sz_of hz, _, _, rfl, rfl, _, rfl, ?_⟩
      have fin : ∀ b : Bool, (decide (1 ≤ z.length) && decide (z.length ≤ 6)) = b → b = false → ∀ H', Same H H' → Q (.bl false) H' := fun b e eb H' s' => by
        have h2 := q H' s'
        unfold isNameL at h2
        rw [e, eb] at h2
        exact h2
      have len1 : (decide ((1 : Int) ≤ (z.length : Nat))) = decide (1 ≤ z.length) := decide_eq_decide.mpr (by omega)
      have len6 : (decide (((z.length : Nat) : Int) ≤ 6)) = decide (z.length ≤ 6) := decide_eq_decide.mpr (by omega)
      by_cases h1 : 1 ≤ z.length
      · refine ite1 (by rw [len1]; exact decide_eq_true h1) ⟨_, _, rfl, rfl, ?_⟩
        by_cases h6 : z.length ≤ 6
        · refine ⟨true, by show V.bl _ = _; rw [len6, decide_eq_true h6], ?_⟩
          refine ⟨_, rfl, _, rfl, fun D nD => lc_it walk_str (fun i H2 => Same H H2 ∧ H2 D = some (.lst ((z.cps.toList.take i).map fun c => V.bl (isLow c)))) ⟨same_upd nD, upd_same⟩ (fun _ _ _ _ => trivial) ?_ ?_⟩
          · rintro i x H2 H3 hi ⟨sm, hD⟩ ⟨rfl, c, hc, rfl⟩
            refine ⟨rfl, _, rfl, c, _, rfl, rfl, _, hD, ?_, sm.own nD, ?_⟩
            · rw [List.length_map, List.length_take, Array.length_toList]
              exact small1000 (Nat.le_trans (Nat.min_le_left _ _) (Nat.le_trans (Nat.le_of_lt hi) (Nat.le_trans h6 (by decide))))
            · rw [upd_same, letters_mem, List.take_add_one, List.map_append, Array.getElem?_toList, hc]
              rfl
          · rintro H2 ⟨sm, hD⟩
            rw [show z.cps.size = z.cps.toList.length by simp, List.take_length] at hD
            have e : (z.cps.toList.map fun c => V.bl (isLow c)) = (z.cps.toList.map isLow).map V.bl := by rw [List.map_map]; rfl
            rw [e] at hD
            refine ⟨D, _, rfl, sl hD, ?_⟩
            have h2 := q H2 sm
            unfold isNameL at h2
            rw [decide_eq_true h1, decide_eq_true h6] at h2
            rw [List.all_map]
            exact h2
        · refine ⟨false, by show V.bl _ = _; rw [len6, decide_eq_false h6], ?_⟩
          exact fin _ rfl (by rw [decide_eq_false h6, Bool.and_false]) H (Same.refl H)
      · refine ite0 (by rw [len1]; exact decide_eq_false h1) ⟨false, rfl, ?_⟩
        exact fin _ rfl (by rw [decide_eq_false h1, Bool.false_and]) H (Same.refl H)
    · refine ite1 (by rw [decide_eq_false hs]; rfl) ?_
      have : isNameD d = false := by cases d <;> first | rfl | exact absurd rfl hs
      have h2 := q H (Same.refl H)
      rw [this] at h2
      exact h2
theorem ok_isnum (T : Tp K w mg) : FnOk P w K mg base CX0 1 T.f_isnum T.fd_isnum ["thing"] (spD K isNumD) := by
  refine T.D_isnum.F.ok sc_isnum (fun vs H Q E h => ?_) (fun cdv A outer s H vs Q E hr h => ?_)
  · obtain ⟨v, d, rfl, _⟩ := h
    rfl
  · obtain ⟨v, d, rfl, hd, hk, q⟩ := h
    have q := q H (Same.refl H)
    refine ⟨_, (pss_one (ps_ret (pe_and (pe_callB call_isi (by rfl) T.isinstance (by decide +kernel) (pa_cons (pv 0) (pa_cons (pe_bltn (v := .ty "int") (by rfl) T.int (by decide +kernel) rfl) pa_nil))) (pe_one (pe_notT (pe_callB call_isi (by rfl) T.isinstance (by decide +kernel) (pa_cons (pv 0) (pa_cons (pe_bltn (v := .ty "bool") (by rfl) T.bool (by decide +kernel) rfl) pa_nil)))))))), ?_⟩
    obtain ⟨ty, kin⟩ := dp_ty hd
    refine ⟨_, rfl, _, _, _, _, _, rfl, .ty "int", ty, kit_datInt kin, _, rfl, ?_⟩
    by_cases hi : kindD d = "int"
    · refine ite1 (decide_eq_true (.inl hi)) ⟨_, rfl, _, _, _, _, _, rfl, .ty "bool", ty, kit_dat (by decide) kin, _, rfl, ?_⟩
      rw [show isNumD d = true by cases d <;> simp [kindD] at hi <;> rfl] at q
      rw [hi]
      exact q
    · by_cases hb : kindD d = "bool"
      · refine ite1 (decide_eq_true (.inr hb)) ⟨_, rfl, _, _, _, _, _, rfl, .ty "bool", ty, kit_dat (by decide) kin, _, rfl, ?_⟩
        rw [show isNumD d = false by cases d <;> first | rfl | exact absurd rfl hi] at q
        rw [hb]
        exact q
      · refine ite0 (decide_eq_false (fun h => h.elim hi hb)) ?_
        rw [show isNumD d = false by cases d <;> first | rfl | exact absurd rfl hi] at q
        exact q
/-- what an item of a tuple is -/
theorem dp_tup {K : PySem.W.Frag} {H : Hp} {v : V} {ds : List PyData} (h : Dp K H v (.tuple ds)) : ∃ (a : Addr) (xs : List V), v = .ref a ∧ SqT K H a xs ∧ DpAll K H xs ds := by
  cases h with
  | tup h1 h2 => exact ⟨_, _, rfl, h1, h2⟩
/-- is_calc: depth n at most -/
def spCalc (K : PySem.W.Frag) (n : Nat) : Sp := fun vs H Q _ => ∃ v d, vs = [v] ∧ Dp K H v d ∧ okD d = true ∧ d.depth ≤ n ∧ ∀ H', Same H H' → Q (.bl (isCalcD d)) H'
theorem ok_iscalc (T : Tp K w mg) : ∀ n, FnOk P w K mg base CX0 (n + 1 + 1) T.f_iscalc T.fd_iscalc ["thing"] (spCalc K n) := rec_fn fun n ih => by
  refine T.D_iscalc.F.ok sc_iscalc (fun vs H Q E h => ?_) (fun cdv A outer s H vs Q E hr h => ?_)
  · obtain ⟨v, d, rfl, _⟩ := h
    rfl
  · obtain ⟨v, d, rfl, hd, hk, hdep, q⟩ := h
    refine ⟨_, (pss_cons (ps_if (pt_not (pt_val (pe_callB call_isi (by rfl) T.isinstance (by decide +kernel) (pa_cons (pv 0) (pa_cons (pe_bltn (v := .ty "tuple") (by rfl) T.tuple (by decide +kernel) rfl) pa_nil)))))
  (pss_one (ps_ret (pe_or (pcall T.D_isnum (ok_isnum T) (hr.mono (by omega)) (by rfl) (pa_cons (pv 0) pa_nil)) (pe_one (pcall T.D_isname (ok_isname T) (hr.mono (by omega)) (by rfl) (pa_cons (pv 0) pa_nil))))))
  pss_nil)
  (pss_cons (ps_if (PW.pt (pw_or (pt_cmpR op_ne (pe_callB call_len_seq (by rfl) T.len PySem.boot_len (pa_cons (pv 0) pa_nil)) pe_int (nomark _)) (pw_or (pt_not (pt_val (pe_callB call_isi (by rfl) T.isinstance (by decide +kernel) (pa_cons (pe_ix ix_tup (pv 0) pe_int (fun _ _ => rfl)) (pa_cons (pe_bltn (v := .ty "str") (by rfl) T.str (by decide +kernel) rfl) pa_nil))))) (pw_or1 (pt_cmpR op_notIn_seq (pe_ix ix_tup (pv 0) pe_int (fun _ _ => rfl)) (pe_gr (by rfl) T.c_KINDS) (by rfl))))))
  (pss_one (ps_ret pe_bl))
  pss_nil)
  (pss_one (ps_ret (pe_and (pcall T.D_iscalc ih (hr.mono (by omega)) (by rfl) (pa_cons (pe_ix ix_tup (pv 0) pe_int (fun _ _ => rfl)) pa_nil)) (pe_one (pcall T.D_iscalc ih (hr.mono (by omega)) (by rfl) (pa_cons (pe_ix ix_tup (pv 0) pe_int (fun _ _ => rfl)) pa_nil)))))))), ?_⟩
    obtain ⟨ty, kin⟩ := dp_ty hd
    refine ⟨_, rfl, _, _, _, _, _, rfl, .ty "tuple", ty, kit_dat (by decide) kin, _, rfl, ?_⟩
    by_cases ht : kindD d = "tuple"
    · refine ite0 (by rw [decide_eq_true ht]; rfl) ?_
      obtain ⟨ds, rfl⟩ : ∃ ds, d = .tuple ds := by cases d <;> simp [kindD] at ht ⊢
      obtain ⟨a, xs, rfl, hx, hall⟩ := dp_tup hd
      have hl := dpAll_len hall
      refine ⟨_, rfl, _, _, rfl, .inr hx, rfl, _, rfl, ?_⟩
      by_cases h3 : ds.length = 3
      · refine ite0 (by rw [hl, h3]; rfl) ?_
        obtain ⟨d1, d2, d3, rfl⟩ : ∃ d1 d2 d3, ds = [d1, d2, d3] := by
          match ds, h3 with
          | [d1, d2, d3], _ => exact ⟨_, _, _, rfl⟩
        cases hall with
        | cons p1 hall =>
        cases hall with
        | cons p2 hall =>
        cases hall with
        | cons p3 hall =>
        cases hall
        rename_i v1 v2 v3
        have ok3 : okD d1 = true ∧ okD d2 = true ∧ okD d3 = true := by
          simp only [okD, okAll, Bool.and_eq_true] at hk
          exact ⟨hk.2.1, hk.2.2.1, hk.2.2.2.1⟩
        have dep3 : d2.depth + 1 ≤ n ∧ d3.depth + 1 ≤ n := by
          simp only [PyData.depth, PyData.depthAll] at hdep
          omega
        obtain ⟨ty1, kin1⟩ := dp_ty p1
        refine ⟨_, rfl, _, _, _, _, rfl, rfl, hx, atI_nat (j := 0) rfl, _, _, _, _, _, rfl, .ty "str", ty1, kit_dat (by decide) kin1, _, rfl, ?_⟩
        by_cases hs : kindD d1 = "str"
        · obtain ⟨k, rfl⟩ : ∃ k, d1 = .str k := by cases d1 <;> simp [kindD] at hs ⊢
          cases p1
          refine ite0 (by rw [decide_eq_true hs]; rfl) ?_
          refine ⟨_, rfl, _, _, _, _, rfl, rfl, hx, atI_nat (j := 0) rfl, _, _, rfl, .inr (T.t_KINDS H), rfl, rfl, _, rfl, ?_⟩
          have ein : (if true = true then !inV (.str k) [.str "sum", .str "minus", .str "less"] else inV (.str k) [.str "sum", .str "minus", .str "less"]) = !decide (k = "sum" ∨ k = "minus" ∨ k = "less") := by
            rw [if_pos rfl, kinds_in]
          by_cases hkd : k = "sum" ∨ k = "minus" ∨ k = "less"
          · refine ite0 (ein.trans (by rw [decide_eq_true hkd]; rfl)) ?_
            obtain ⟨m, rfl⟩ : ∃ m, n = m + 1 := ⟨n - 1, by omega⟩
            have ec : isCalcD (.tuple [.str k, d2, d3]) = (isCalcD d2 && isCalcD d3) := by show (decide _ && _) = _; rw [decide_eq_true hkd, Bool.true_and]
            rw [ec] at q
            refine ⟨_, rfl, _, _, _, _, rfl, rfl, hx, atI_nat (j := 1) rfl, v2, d2, rfl, p2, ok3.2.1, by omega, fun H1 s1 => ⟨_, rfl, ?_⟩⟩
            cases e2 : isCalcD d2 with
            | false => rw [e2] at q; exact iteF (q H1 s1)
            | true =>
              rw [e2] at q
              exact iteT ⟨_, rfl, _, _, _, _, rfl, rfl, s1.sqt hx, atI_nat (j := 2) rfl, v3, d3, rfl, s1.dp p3, ok3.2.2, by omega, fun H2 s2 => q H2 (s1.trans s2)⟩
          · refine ite1 (ein.trans (by rw [decide_eq_false hkd]; rfl)) ?_
            have h2 := q H (Same.refl H)
            rw [show isCalcD (.tuple [.str k, d2, d3]) = false by show (decide _ && _) = false; rw [decide_eq_false hkd]; rfl] at h2
            exact h2
        · refine ite1 (by rw [decide_eq_false hs]; rfl) ?_
          have h2 := q H (Same.refl H)
          rw [show isCalcD (.tuple [d1, d2, d3]) = false by
            show (isKindD d1 && _) = false
            rw [show isKindD d1 = false by cases d1 <;> first | rfl | exact absurd rfl hs]
            rfl] at h2
          exact h2
      · refine ite1 (by rw [hl]; simp; omega) ?_
        have e : isCalcD (.tuple ds) = false := by
          match ds, h3 with
          | [], _ => rfl
          | [_], _ => rfl
          | [_, _], _ => rfl
          | _ :: _ :: _ :: _ :: _, _ => rfl
        have h2 := q H (Same.refl H)
        rw [e] at h2
        exact h2
    · refine ite1 (by rw [decide_eq_false ht]; rfl) ?_
      have ec : isCalcD d = (isNumD d || isNameD d) := by
        cases d <;> first | rfl | exact absurd rfl ht
      rw [ec] at q
      refine ⟨_, rfl, v, d, rfl, hd, hk, fun H1 s1 => ⟨_, rfl, ?_⟩⟩
      cases e1 : isNumD d with
      | true => rw [e1] at q; exact iteT (q H1 s1)
      | false => rw [e1] at q; exact iteF ⟨_, rfl, v, d, rfl, s1.dp hd, hk, fun H2 s2 => q H2 (s1.trans s2)⟩
end
end TP
namespace TP
open PySem PySem.Spec PyProof.Rows L2 HX HB HG HU HH HD HS
/-! ### the table of parts -/
def partsL : List (Str × List Str) := [("put", ["name", "calc"]), ("read", ["name", "cell"]), ("write", ["cell", "calc"]), ("tell", ["calc"]), ("send", ["channel", "calc"]), ("take", ["name", "channel"]), ("hold", ["lock", "body"]), ("rest", ["rest"]), ("nest", ["scope", "body"]),
  ("within", ["span", "scope", "body"]), ("start", ["home", "body"]), ("off", ["entered"]), ("shield", ["body"]), ("fail", ["name"]), ("catch", ["body", "name", "body"]), ("try", ["body", "body"]), ("if", ["calc", "body", "body"]), ("often", ["times", "body"])]
def kindsOf (w : Str) : Option (List Str) := (partsL.find? fun q => decide (q.1 = w)).map (·.2)
theorem kindsOf_mem {w : Str} {ks : List Str} (h : kindsOf w = some ks) : (w, ks) ∈ partsL := by
  unfold kindsOf at h
  cases e : partsL.find? fun q => decide (q.1 = w) with
  | none => rw [e] at h; cases h
  | some q =>
    rw [e] at h
    cases h
    have h1 := List.mem_of_find?_eq_some e
    have h2 : q.1 = w := by have := List.find?_some e; simpa using this
    rw [← h2]
    exact h1
theorem kinds_len {w : Str} {ks : List Str} (h : kindsOf w = some ks) : ks.length ≤ 3 := by
  have h1 := kindsOf_mem h
  have : ∀ q ∈ partsL, q.2.length ≤ 3 := by decide
  exact this _ h1
def bodiesV {α : Type} : List Str → List α → List α
  | k :: ks, x :: xs => if k = "body" then x :: bodiesV ks xs else bodiesV ks xs
  | _, _ => []
theorem bodiesV_snoc {α : Type} (k : Str) (x : α) : ∀ (ks : List Str) (xs : List α), ks.length = xs.length → bodiesV (ks ++ [k]) (xs ++ [x]) = bodiesV ks xs ++ (if k = "body" then [x] else [])
  | [], [], _ => by
    simp only [List.nil_append, bodiesV]
  | a :: ks, b :: xs, h => by
    have ih := bodiesV_snoc k x ks xs (Nat.succ.inj h)
    simp only [List.cons_append, bodiesV, ih]
    split <;> rfl
theorem bodiesV_len {α : Type} : ∀ (ks : List Str) (xs : List α), (bodiesV ks xs).length ≤ ks.length
  | [], _ => Nat.zero_le _
  | k :: ks, [] => Nat.zero_le _
  | k :: ks, x :: xs => by
    have ih := bodiesV_len ks xs
    simp only [bodiesV, List.length_cons]
    split
    · rw [List.length_cons]; omega
    · omega
theorem bodiesV_cut {α : Type} : ∀ (ks : List Str) (xs : List α), bodiesV (ks.take (min ks.length xs.length)) (xs.take (min ks.length xs.length)) = bodiesV ks xs
  | [], xs => by simp [bodiesV]
  | k :: ks, [] => by simp [bodiesV]
  | k :: ks, x :: xs => by
    have ih := bodiesV_cut ks xs
    rw [List.length_cons, List.length_cons, show min (ks.length + 1) (xs.length + 1) = min ks.length xs.length + 1 by omega, List.take_succ_cons, List.take_succ_cons]
    simp only [bodiesV, ih]
theorem cut1 (xs : List V) : cutV xs (some 1) none = xs.drop 1 := by
  unfold cutV
  rw [show HT.sIx xs.length 0 (some 1) = min 1 xs.length from HT.sIx_nat xs.length 0 1, HT.sIx_none]
  cases xs with
  | nil => rfl
  | cons x r =>
    rw [show min 1 (x :: r).length = 1 by
      rw [List.length_cons]
      omega]
    show (List.take ((x :: r).length - 1) r) = r
    rw [List.length_cons, Nat.add_sub_cancel]
    exact List.take_length
section
variable {P : Program} {w : World} {K : PySem.W.Frag} {mg : Str → Option Value} {base : Heap}
def partsV : List (Str × List V) := partsL.map fun q => (q.1, q.2.map V.str)
theorem Tp.parts (T : Tp K w mg) : DT K w T.a_PARTS partsV := T.d_PARTS
theorem partsV_mem {z : Str} {ks : List Str} (h : kindsOf z = some ks) : (z, ks.map V.str) ∈ partsV := List.mem_map.mpr ⟨(z, ks), kindsOf_mem h, rfl⟩
def spBodies (K : PySem.W.Frag) : Sp := fun vs H Q _ => ∃ (a : Addr) (z : Str) (ks : List Str) (xs : List V), vs = [.ref a] ∧ SqT K H a (.str z :: xs) ∧ kindsOf z = some ks ∧ ∀ (p : Addr) (H' : Hp), H p = none → Same H H' → H' p = some (.lst (bodiesV ks xs)) → Q (.ref p) H'
theorem ok_bodies (T : Tp K w mg) : FnOk P w K mg base CX0 1 T.f_bodies T.fd_bodies ["row"] (spBodies K) := by
  refine T.D_bodies.F.ok sc_bodies (fun vs H Q E h => ?_) (fun cdv A outer s H vs Q E hr h => ?_)
  · obtain ⟨a, z, ks, xs, rfl, _⟩ := h
    rfl
  · obtain ⟨a, z, ks, xs, rfl, hx, hz, q⟩ := h
    refine ⟨_, (pss_one (ps_ret (pe_lc (own := [("kind", 1), ("part", 2)]) (g := gTup K 2 (gCons (gName 1) (gCons (gName 2) gNil))) (by rfl) sc_bodies.nd (RZ.pi_zipA (by rfl) T.zip (pa_cons (pe_ix (HD.ix_dt T.d_PARTS) (pe_gr (by rfl) T.c_PARTS) (pe_ix ix_tup (pv 0) pe_int (fun _ _ => rfl)) (fun _ _ => rfl)) (pa_cons (pe_slice sl_tup (pv 0) (po_some pe_int) po_none) pa_nil))) (blkOk_by (own := [("kind", 1), ("part", 2)]) (N := ["row", "kind", "part"]) (sc := defScope s_bodies) (by decide +kernel)) (fun _ _ _ _ _ => (pg_tup rfl (pgs_cons (pg_name (i := 1) sc_bodies.nd rfl (.inl rfl)) (pgs_cons (pg_name (i := 2) sc_bodies.nd rfl (.inl rfl)) pgs_nil)))) (fun _ _ _ _ _ => (pts_one (pt_cmpR op_eq (pv 1) pe_str (nomark _)))) (fun _ _ _ _ _ => (pv 2))))), ?_⟩
    refine ⟨_, rfl, _, _, _, _, rfl, rfl, hx, atI_nat (j := 0) rfl, _, partsV_mem hz, rfl, rfl, fun t ht => ?_⟩
    refine ⟨_, rfl, 1, rfl, a, _, rfl, hx, ?_, fun p np => ?_⟩
    · rw [show HT.sIx (V.str z :: xs).length 0 (some 1) = min 1 (V.str z :: xs).length from HT.sIx_nat _ 0 1, List.length_cons]
      omega
    rw [cut1]
    have s1 := same_upd (o := .tup ((V.str z :: xs).drop 1)) np
    have hp : (upd H p (.tup ((V.str z :: xs).drop 1))) p = some (.tup xs) := upd_same
    generalize upd H p (.tup ((V.str z :: xs).drop 1)) = H1 at s1 hp ⊢
    refine ⟨t, p, _, _, rfl, .inr ⟨ht H1, stt hp, fun L nL => ?_⟩⟩
    refine lc_it (HE.walk_zipT (xs := ks.map V.str) (ys := xs) (n := min ks.length xs.length) (by rw [List.length_map])) (fun i H2 => Same H1 H2 ∧ H2 L = some (.lst (bodiesV (ks.take i) (xs.take i)))) ⟨same_upd nL, upd_same⟩ (fun i H2 _ g => ⟨ht H2, stt (g.1 _ _ hp)⟩) ?_ ?_
    · rintro i x H2 H3 hi ⟨sm, hL⟩ ⟨Tt, x1, x2, rfl, nT, rfl, g1, g2⟩
      have h1 : i < ks.length := by omega
      have h2 : i < xs.length := by omega
      dsimp only at g1 g2
      rw [List.getElem?_map, List.getElem?_eq_getElem h1] at g1
      rw [List.getElem?_eq_getElem h2] at g2
      cases g1
      cases g2
      have smT := same_upd (o := .tup [.str ks[i], xs[i]]) nT
      have e : bodiesV (ks.take (i + 1)) (xs.take (i + 1)) = bodiesV (ks.take i) (xs.take i) ++ (if ks[i] = "body" then [xs[i]] else []) := by
        rw [List.take_add_one, List.take_add_one, List.getElem?_eq_getElem h1, List.getElem?_eq_getElem h2]
        exact bodiesV_snoc _ _ _ _ (by rw [List.length_take, List.length_take]; omega)
      refine ⟨Tt, _, rfl, stt upd_same, rfl, _, _, rfl, _, _, rfl, rfl, rfl, _, rfl, rfl, _, rfl, ite2 (fun hb => ?_) (fun hb => ?_)⟩
      · have hb : ks[i] = "body" := V.str.inj (of_decide_eq_true hb)
        refine ⟨_, rfl, _, smT _ _ hL, small1000 (Nat.le_trans (bodiesV_len _ _) (by rw [List.length_take]; have := kinds_len hz; omega)), (sm.trans smT).own nL, ?_⟩
        rw [upd_same, e, if_pos hb]
      · have hb : ks[i] ≠ "body" := fun z => hb (decide_eq_true (by rw [z]))
        refine ⟨sm.trans smT, ?_⟩
        rw [e, if_neg hb, List.append_nil]
        exact smT _ _ hL
    · rintro H2 ⟨sm, hL⟩
      rw [bodiesV_cut] at hL
      exact q L H2 (s1.free nL) (s1.trans sm) hL
end
end TP
namespace TP
open PySem PySem.Spec PyProof.Rows L2 HX HB HG HU HH HD HS
/-- what is known: the names of the cells, locks, channels -/
structure Kn (K : PySem.W.Frag) (H : Hp) (kn : Addr) (cs ls hs : List Str) : Prop where
  ex : ∃ c l h : Addr, H kn = some (.dK [(Sum.inr "cell", .ref c), (Sum.inr "lock", .ref l), (Sum.inr "channel", .ref h)]) ∧ SqT K H c (cs.map V.str) ∧ SqT K H l (ls.map V.str) ∧ SqT K H h (hs.map V.str)
/-- what is around: names and words -/
structure Ar (K : PySem.W.Frag) (H : Hp) (ar : Addr) (ps : List (Str × Str)) : Prop where
  ex : ∃ ts : List Addr, SqT K H ar (ts.map V.ref) ∧ Paired (fun t (p : Str × Str) => SqT K H t [.str p.1, .str p.2]) ts ps
  few : ps.length ≤ 1000
theorem Kn.same {K : PySem.W.Frag} {H H' : Hp} {kn : Addr} {cs ls hs : List Str} (k : Kn K H kn cs ls hs) (s : Same H H') : Kn K H' kn cs ls hs := let ⟨c, l, h, e1, e2, e3, e4⟩ := k.ex; ⟨c, l, h, s _ _ e1, s.sqt e2, s.sqt e3, s.sqt e4⟩
theorem Ar.same {K : PySem.W.Frag} {H H' : Hp} {ar : Addr} {ps : List (Str × Str)} (k : Ar K H ar ps) (s : Same H H') : Ar K H' ar ps := ⟨let ⟨ts, e1, e2⟩ := k.ex; ⟨ts, s.sqt e1, paired_imp (fun _ _ h => s.sqt h) e2⟩, k.few⟩
def rangesL : List (Str × (Int × Int)) := [("rest", (0, 9)), ("span", (1, 9)), ("times", (0, 3))]
def rangesV : List (Str × List V) := rangesL.map fun q => (q.1, [V.int q.2.1, V.int q.2.2])
def rangeOf (k : Str) : Option (Int × Int) := (rangesL.find? fun q => decide (q.1 = k)).map (·.2)
theorem rangeOf_mem {k : Str} {r : Int × Int} (h : rangeOf k = some r) : (k, r) ∈ rangesL := by
  unfold rangeOf at h
  cases e : rangesL.find? fun q => decide (q.1 = k) with
  | none => rw [e] at h; cases h
  | some q =>
    rw [e] at h
    cases h
    have h2 : q.1 = k := by have := List.find?_some e; simpa using this
    rw [← h2]
    exact List.mem_of_find?_eq_some e
theorem rangeOf_none {k : Str} (h : rangeOf k = none) : k ∉ rangesV.map (·.1) := by
  intro hm
  obtain ⟨q, hq, rfl⟩ := List.mem_map.mp hm
  obtain ⟨p, hp, rfl⟩ := List.mem_map.mp hq
  unfold rangeOf at h
  cases e : rangesL.find? fun q => decide (q.1 = p.1) with
  | none => exact absurd (List.find?_eq_none.mp e p hp) (by simp)
  | some x => rw [show (fun q : Str × (Int × Int) => decide (q.1 = (p.1, [V.int p.2.1, V.int p.2.2]).1)) = fun q => decide (q.1 = p.1) from rfl, e] at h; cases h
def lookW (ps : List (Str × Str)) (z : Str) : Option Str := lookS (mergeZ [] ps) z
def inRange (d : PyData) (r : Int × Int) : Bool := match d with
  | .int i => decide (r.1 ≤ i) && decide (i ≤ r.2)
  | _ => false
def namePart (kind z : Str) (cs ls hs : List Str) (ps : List (Str × Str)) : Bool :=
  if kind = "cell" then decide (z ∈ cs) else if kind = "lock" then decide (z ∈ ls) else if kind = "channel" then decide (z ∈ hs)
  else if kind = "home" then decide (lookW ps z = some ("nest" : Str))
  else decide (kind = "name") || decide ((lookW ps z).isSome = decide (kind = "entered"))
def strPart (d : PyData) (f : Str → Bool) : Bool := match d with
  | .str z => isNameL z && f z
  | _ => false
def isPartD (cs ls hs : List Str) (ps : List (Str × Str)) (kind : Str) (d : PyData) : Bool :=
  if kind = "calc" then isCalcD d else if kind = "body" then decide (kindD d = "tuple")
  else match rangeOf kind with
    | some r => inRange d r
    | none => strPart d fun z => namePart kind z cs ls hs ps
theorem inV_strs (z : Str) : ∀ zs : List Str, inV (.str z) (zs.map V.str) = decide (z ∈ zs)
  | [] => by simp [inV]
  | y :: zs => by
    have ih := inV_strs z zs
    show (eqV (.str y) (.str z) || inV (.str z) (zs.map V.str)) = _
    rw [ih]
    simp only [eqV, List.mem_cons, Bool.decide_or]
    congr 1
    by_cases h : z = y
    · subst h; simp
    · rw [decide_eq_false h]; exact beq_eq_false_iff_ne.mpr (Ne.symm h)
theorem flat_strs : ∀ zs : List Str, (zs.map V.str).all flatV = true
  | [] => rfl
  | z :: zs => by rw [List.map_cons, List.all_cons, flat_strs zs]; rfl
theorem es_str (y z : Str) : decide (V.str y = V.str z) = decide (y = z) := decide_eq_decide.mpr ⟨fun h => V.str.inj h, fun h => congrArg V.str h⟩
section
variable {P : Program} {w : World} {K : PySem.W.Frag} {mg : Str → Option Value} {base : Heap}
theorem Tp.ranges (T : Tp K w mg) : DT K w T.a_RANGES rangesV := T.d_RANGES
def spPart (K : PySem.W.Frag) (n : Nat) : Sp := fun vs H Q _ => ∃ (kind : Str) (v : V) (d : PyData) (kn ar : Addr) (cs ls hs : List Str) (ps : List (Str × Str)), vs = [.str kind, v, .ref kn, .ref ar] ∧ Dp K H v d ∧ okD d = true ∧ d.depth ≤ n ∧ Kn K H kn cs ls hs ∧ Ar K H ar ps ∧
  ∀ H', Same H H' → Q (.bl (isPartD cs ls hs ps kind d)) H'
theorem ok_ispart (T : Tp K w mg) (n : Nat) : FnOk P w K mg base CX0 (n + 1 + 1 + 1) T.f_ispart T.fd_ispart ["kind", "thing", "known", "around"] (spPart K n) := by
  refine T.D_ispart.F.ok sc_ispart (fun vs H Q E h => ?_) (fun cdv A outer s H vs Q E hr h => ?_)
  · obtain ⟨kind, v, d, kn, ar, cs, ls, hs, ps, rfl, _⟩ := h
    rfl
  · obtain ⟨kind, v, d, kn, ar, cs, ls, hs, ps, rfl, hd, hk, hdep, hkn, har, q⟩ := h
    have hu := hu_of hr
    refine ⟨_, (pss_cons (ps_if (pt_cmpR op_eq (pv 0) pe_str (nomark _))
  (pss_one (ps_ret (pcall T.D_iscalc (ok_iscalc T n) (hr.mono (by omega)) (by rfl) (pa_cons (pv 1) pa_nil))))
  pss_nil)
  (pss_cons (ps_if (pt_cmpR op_eq (pv 0) pe_str (nomark _))
  (pss_one (ps_ret (pe_callB call_isi (by rfl) T.isinstance (by decide +kernel) (pa_cons (pv 1) (pa_cons (pe_bltn (v := .ty "tuple") (by rfl) T.tuple (by decide +kernel) rfl) pa_nil)))))
  pss_nil)
  (pss_cons (ps_if (pt_cmpR (HD.op_in_dt T.d_RANGES) (pv 0) (pe_gr (by rfl) T.c_RANGES) (by rfl))
  (pss_cons (ps_asg (pe_ix (HD.ix_dt T.d_RANGES) (pe_gr (by rfl) T.c_RANGES) (pv 0) (fun _ _ => rfl)) (pg_tup rfl (pgs_cons (pg_name (i := 4) sc_ispart.nd rfl (.inl rfl)) (pgs_cons (pg_name (i := 5) sc_ispart.nd rfl (.inl rfl)) pgs_nil))))
  (pss_one (ps_ret (pe_and (pcall T.D_isnum (ok_isnum T) (hr.mono (by omega)) (by rfl) (pa_cons (pv 1) pa_nil)) (pe_one (pe_chain op_le op_le (pv 4) (pv 1) (pv 5)))))))
  pss_nil)
  (pss_cons (ps_if (pt_not (pt_val (pcall T.D_isname (ok_isname T) (hr.mono (by omega)) (by rfl) (pa_cons (pv 1) pa_nil))))
  (pss_one (ps_ret pe_bl))
  pss_nil)
  (pss_cons (ps_if (pt_cmp (pc_din hu (pv 0) (pv 2)))
  (pss_one (ps_ret (pe_cmpR op_in_seq (pv 1) (pe_dget hu (pv 2) (pv 0) (fun _ _ => rfl)) (by rfl))))
  pss_nil)
  (pss_cons (HD.ps_setDc (i := 6) (own := [("name", 7), ("word", 8)]) (g := gTup K 2 (gCons (gName 7) (gCons (gName 8) gNil))) (by rfl) sc_ispart.nd rfl rfl (HD.sw_dict rfl rfl rfl (by decide +kernel)) (pi_tup (pv 3)) (blkOk_by (own := [("name", 7), ("word", 8)]) (N := ["kind", "thing", "known", "around", "least", "most", "words", "name", "word"]) (sc := defScope s_ispart) (by decide +kernel)) (fun _ _ _ _ _ => (pg_tup rfl (pgs_cons (pg_name (i := 7) sc_ispart.nd rfl (.inl rfl)) (pgs_cons (pg_name (i := 8) sc_ispart.nd rfl (.inl rfl)) pgs_nil)))) (fun _ _ _ _ _ => pts_nil) (fun _ _ _ _ _ => (pv 7)) (fun _ _ _ _ _ => (pv 8)))
  (pss_cons (ps_if (pt_cmpR op_eq (pv 0) pe_str (nomark _))
  (pss_one (ps_ret (pe_cmpR op_eq (pe_dget1 hu (pv 6) (pv 1) ⟨by rfl, by rfl, by rfl, by rfl⟩) pe_str (nomark _))))
  pss_nil)
  (pss_one (ps_ret (pe_or (pe_cmpR op_eq (pv 0) pe_str (nomark _)) (pe_one (pe_cmpR op_eq (pe_cmp (pc_din hu (pv 1) (pv 6))) (pe_cmpR op_eq (pv 0) pe_str (nomark _)) (nomark _))))))))))))), ?_⟩
    obtain ⟨ty, kin⟩ := dp_ty hd
    refine ⟨_, rfl, rfl, _, rfl, ?_⟩
    rw [es_str]
    refine ite2 (fun h1 => ?_) (fun h1 => ?_)
    · have e : isPartD cs ls hs ps kind d = isCalcD d := by unfold isPartD; rw [if_pos (of_decide_eq_true h1)]
      rw [e] at q
      exact ⟨_, rfl, v, d, rfl, hd, hk, hdep, q⟩
    have n1 : kind ≠ "calc" := fun z => h1 (decide_eq_true z)
    refine ⟨_, rfl, rfl, _, rfl, ?_⟩
    rw [es_str]
    refine ite2 (fun h2 => ?_) (fun h2 => ?_)
    · have e : isPartD cs ls hs ps kind d = decide (kindD d = "tuple") := by unfold isPartD; rw [if_neg n1, if_pos (of_decide_eq_true h2)]
      rw [e] at q
      exact ⟨_, rfl, _, _, _, _, _, rfl, .ty "tuple", ty, kit_dat (by decide) kin, q H (Same.refl H)⟩
    have n2 : kind ≠ "body" := fun z => h2 (decide_eq_true z)
    have up : isPartD cs ls hs ps kind d = match rangeOf kind with
        | some r => inRange d r
        | none => strPart d fun z => namePart kind z cs ls hs ps := by unfold isPartD; rw [if_neg n1, if_neg n2]
    rw [up] at q
    cases hr : rangeOf kind with
    | some r =>
      rw [hr] at q
      dsimp only at q
      have hm := rangeOf_mem hr
      have hmV : (kind, [V.int r.1, V.int r.2]) ∈ rangesV := List.mem_map.mpr ⟨(kind, r), hm, rfl⟩
      refine ⟨_, rfl, kind, rfl, rfl, _, rfl, ite1 (show decide (kind ∈ rangesV.map (·.1)) = true from decide_eq_true (List.mem_map.mpr ⟨_, hmV, rfl⟩)) ?_⟩
      refine ⟨_, rfl, _, hmV, rfl, rfl, fun t ht => ⟨t, _, rfl, ht H, rfl, _, _, rfl, _, _, rfl, rfl, ?_⟩⟩
      refine ⟨_, rfl, v, d, rfl, hd, hk, fun H1 s1 => ⟨_, rfl, ?_⟩⟩
      by_cases hi : ∃ i, d = .int i
      · obtain ⟨i, rfl⟩ := hi
        cases hd
        refine iteT ⟨_, rfl, _, rfl, _, _, rfl, rfl, _, rfl, ?_⟩
        have q := q H1 s1
        refine ite2 (fun h => ?_) (fun h => ?_)
        · refine ⟨_, rfl, _, _, rfl, rfl, ?_⟩
          rw [show inRange (.int i) r = decide (i ≤ r.2) by show (decide _ && _) = _; rw [h, Bool.true_and]] at q
          exact q
        · rw [show inRange (.int i) r = false by show (decide _ && _) = _; rw [Bool.eq_false_iff.mpr h, Bool.false_and]] at q
          exact q
      · have e1 : isNumD d = false := by cases d <;> first | rfl | exact absurd ⟨_, rfl⟩ hi
        have e2 : inRange d r = false := by cases d <;> first | rfl | exact absurd ⟨_, rfl⟩ hi
        rw [e1]
        rw [e2] at q
        exact iteF (q H1 s1)
    | none =>
      rw [hr] at q
      dsimp only at q
      refine ⟨_, rfl, kind, rfl, rfl, _, rfl, ite0 (show decide (kind ∈ rangesV.map (·.1)) = false from decide_eq_false (rangeOf_none hr)) ?_⟩
      refine ⟨_, rfl, v, d, rfl, hd, hk, fun H1 s1 => ⟨_, rfl, ?_⟩⟩
      by_cases hn : isNameD d = true
      · obtain ⟨z, rfl⟩ : ∃ z, d = .str z := by cases d <;> first | exact ⟨_, rfl⟩ | cases hn
        cases hd
        refine ite0 (by rw [hn]; rfl) ?_
        have hn' : isNameL z = true := hn
        have q2 : ∀ H', Same H H' → Q (.bl (namePart kind z cs ls hs ps)) H' := fun H' s' => by
          have h := q H' s'
          rw [show (strPart (.str z) fun z => namePart kind z cs ls hs ps) = namePart kind z cs ls hs ps by show (isNameL z && _) = _; rw [hn', Bool.true_and]] at h
          exact h
        clear q up
        obtain ⟨c, l, h, k1, k2, k3, k4⟩ := (hkn.same s1).ex
        have g := DGet.k (k := Sum.inr kind) k1
        have seq : ∀ (a : Addr) (xs : List Str), SqT K H1 a (xs.map V.str) → Q (.bl (decide (z ∈ xs))) H1 → rIn K false (.str z) (.ref a) H1 Q := fun a xs h1 h2 => ⟨a, _, rfl, .inr h1, rfl, flat_strs xs, by rw [if_neg Bool.false_ne_true, inV_strs]; exact h2⟩
        refine ⟨_, rfl, _, rfl, kn, _, rfl, g, _, rfl, ?_⟩
        by_cases c1 : kind = "cell"
        · subst c1
          refine iteT ⟨_, rfl, _, rfl, _, rfl, kn, _, rfl, g, seq c cs k2 ?_⟩
          exact q2 H1 s1
        by_cases c2 : kind = "lock"
        · subst c2
          refine iteT ⟨_, rfl, _, rfl, _, rfl, kn, _, rfl, g, seq l ls k3 ?_⟩
          exact q2 H1 s1
        by_cases c3 : kind = "channel"
        · subst c3
          refine iteT ⟨_, rfl, _, rfl, _, rfl, kn, _, rfl, g, seq h hs k4 ?_⟩
          exact q2 H1 s1
        have miss : valV [((Sum.inr "cell" : Key), V.ref c), (Sum.inr "lock", .ref l), (Sum.inr "channel", .ref h)] (Sum.inr kind : Key) = none := by
          unfold valV
          simp only [List.find?_cons, key_rr]
          rw [decide_eq_false (Ne.symm c1), decide_eq_false (Ne.symm c2), decide_eq_false (Ne.symm c3)]
          rfl
        rw [miss]
        refine iteF ?_
        have en : namePart kind z cs ls hs ps = if kind = "home" then decide (lookW ps z = some ("nest" : Str)) else decide (kind = "name") || decide ((lookW ps z).isSome = decide (kind = "entered")) := by
          unfold namePart
          rw [if_neg c1, if_neg c2, if_neg c3]
        rw [en] at q2
        -- the words
        obtain ⟨ts, a1, a2⟩ := (har.same s1).ex
        have tl : ts.length = ps.length := a2.length
        refine ⟨_, rfl, ar, rfl, ⟨_, a1⟩, fun D nD => dc_tup (xs := ts.map V.ref) (fun i H2 => Same H1 H2 ∧ H2 D = some (.dK (dz (mergeZ [] (ps.take i))))) ⟨same_upd nD, upd_same⟩ (fun i H2 _ g => g.1.sqt a1) ?_ ?_⟩
        · rintro i x H2 hx ⟨sm, hD⟩
          have hi : i < ts.length := by
            have := (List.getElem?_eq_some_iff.mp hx).1
            rwa [List.length_map] at this
          rw [List.getElem?_map, List.getElem?_eq_getElem hi] at hx
          cases hx
          obtain ⟨p, e1, e2⟩ := paired_at a2 (List.getElem?_eq_getElem hi)
          have tk : ps.take (i + 1) = ps.take i ++ [p] := by rw [List.take_add_one, e1]; rfl
          refine ⟨_, _, rfl, sm.sqt e2, rfl, _, _, rfl, _, _, rfl, rfl, rfl, ?_⟩
          refine ⟨_, rfl, _, rfl, _, Sum.inr p.1, rfl, hD, ?_, sm.own nD, ?_⟩
          · rw [dz, List.length_map]
            refine Evl.sz_lt (Nat.lt_of_le_of_lt (mergeZ_len _ _) ?_)
            have := har.few
            rw [List.length_nil, List.length_take]
            omega
          · rw [upd_same, putZ_dz, tk]
            unfold mergeZ
            rw [List.foldl_append]
            rfl
        · rintro H2 ⟨sm, hD⟩
          rw [List.length_map, tl, List.take_length] at hD
          have gz := DGet.k (k := Sum.inr z) hD
          rw [lookS_val] at gz
          refine ⟨_, rfl, rfl, _, rfl, ?_⟩
          rw [es_str]
          refine ite2 (fun hh => ?_) (fun hh => ?_)
          · rw [if_pos (of_decide_eq_true hh)] at q2
            refine ⟨_, rfl, D, rfl, .inl ⟨_, .inl hD⟩, _, rfl, _, gz, ?_⟩
            have q3 := q2 H2 (s1.trans sm)
            unfold lookW at q3
            cases e : lookS (mergeZ [] ps) z with
            | none => rw [e] at q3; exact ⟨rfl, q3⟩
            | some y =>
              rw [e] at q3
              refine ⟨rfl, ?_⟩
              rw [show decide (some y = some ("nest" : Str)) = decide (y = "nest") from decide_eq_decide.mpr ⟨fun h => Option.some.inj h, fun h => congrArg some h⟩] at q3
              show Q (V.bl (decide (V.str y = V.str "nest"))) H2
              rw [es_str]
              exact q3
          · rw [if_neg (fun e => hh (decide_eq_true e))] at q2
            have q3 := q2 H2 (s1.trans sm)
            refine ⟨_, rfl, rfl, _, rfl, ?_⟩
            rw [es_str]
            refine ite2 (fun h5 => ?_) (fun h5 => ?_)
            · rw [h5] at q3; exact q3
            · rw [Bool.eq_false_iff.mpr h5, Bool.false_or] at q3
              refine ⟨_, rfl, _, rfl, D, _, rfl, gz, _, rfl, rfl, rfl, ?_⟩
              rw [es_str, Option.isSome_map]
              unfold lookW at q3
              have eb : ∀ a b : Bool, decide (V.bl a = V.bl b) = decide (a = b) := fun a b => by cases a <;> cases b <;> rfl
              rw [eb]
              exact q3
      · have e1 : isNameD d = false := Bool.eq_false_iff.mpr hn
        refine ite1 (by rw [e1]; rfl) ?_
        have q := q H1 s1
        have e2 : (strPart d fun z => namePart kind z cs ls hs ps) = false := by
          cases d <;> first | rfl | (show (isNameL _ && _) = false; rw [show isNameL _ = false from e1]; rfl)
        rw [e2] at q
        exact q
end
end TP
namespace TP
open PySem PySem.Spec PyProof.Rows L2 HX HB HG HU HH HD HS
/-! ### rows -/
def isRowD (cs ls hs : List Str) (ps : List (Str × Str)) : PyData → Bool
  | .tuple (.str z :: xs) => match kindsOf z with
    | some ks => decide (xs.length = ks.length) && (ks.zip xs).all fun q => isPartD cs ls hs ps q.1 q.2
    | none => false
  | _ => false
theorem dpAll_at {K : PySem.W.Frag} {H : Hp} : ∀ {xs : List V} {ds : List PyData}, DpAll K H xs ds → ∀ {i : Nat} (h1 : i < xs.length) (h2 : i < ds.length), Dp K H xs[i] ds[i]
  | _, _, .cons p t, 0, _, _ => p
  | _, _, .cons p t, i + 1, h1, h2 => dpAll_at t (Nat.lt_of_succ_lt_succ h1) (Nat.lt_of_succ_lt_succ h2)
theorem depthAll_mem : ∀ {ds : List PyData} {d : PyData}, d ∈ ds → d.depth ≤ PyData.depthAll ds
  | x :: xs, d, h => by
    simp only [PyData.depthAll]
    rcases List.mem_cons.mp h with rfl | h
    · omega
    · have := depthAll_mem h; omega
theorem partsV_key (z : Str) : decide (z ∈ partsV.map (·.1)) = (kindsOf z).isSome := by
  unfold kindsOf partsV
  rw [List.map_map, Option.isSome_map]
  cases e : partsL.find? fun q => decide (q.1 = z) with
  | none =>
    refine decide_eq_false fun h => ?_
    obtain ⟨q, hq, rfl⟩ := List.mem_map.mp h
    exact absurd (List.find?_eq_none.mp e q hq) (by simp)
  | some q =>
    have h2 : q.1 = z := by have := List.find?_some e; simpa using this
    exact decide_eq_true (List.mem_map.mpr ⟨q, List.mem_of_find?_eq_some e, h2⟩)
section
variable {P : Program} {w : World} {K : PySem.W.Frag} {mg : Str → Option Value} {base : Heap}
def spRow (K : PySem.W.Frag) (n : Nat) : Sp := fun vs H Q _ => ∃ (v : V) (d : PyData) (kn ar : Addr) (cs ls hs : List Str) (ps : List (Str × Str)), vs = [v, .ref kn, .ref ar] ∧ Dp K H v d ∧ okD d = true ∧ SeqAt.shaped d = true ∧ d.depth ≤ n ∧ Kn K H kn cs ls hs ∧ Ar K H ar ps ∧
  ∀ H', Same H H' → Q (.bl (isRowD cs ls hs ps d)) H'
theorem ok_isrow (T : Tp K w mg) (n : Nat) : FnOk P w K mg base CX0 (n + 1 + 1 + 1 + 1) T.f_isrow T.fd_isrow ["row", "known", "around"] (spRow K n) := by
  refine T.D_isrow.F.ok sc_isrow (fun vs H Q E h => ?_) (fun cdv A outer s H vs Q E hr h => ?_)
  · obtain ⟨v, d, kn, ar, cs, ls, hs, ps, rfl, _⟩ := h
    rfl
  · obtain ⟨v, d, kn, ar, cs, ls, hs, ps, rfl, hd, hk, hsh, hdep, hkn, har, q⟩ := h
    have hu := hu_of hr
    refine ⟨_, (pss_cons (ps_if (PW.pt (pw_or (pt_not (pt_val (pe_callB call_isi (by rfl) T.isinstance (by decide +kernel) (pa_cons (pv 0) (pa_cons (pe_bltn (v := .ty "tuple") (by rfl) T.tuple (by decide +kernel) rfl) pa_nil))))) (pw_or (pt_cmpR (op_eqD hr.units) (pv 0) (pe_tup pa_nil) (nomark _)) (pw_or (pt_not (pt_val (pe_callB call_isi (by rfl) T.isinstance (by decide +kernel) (pa_cons (pe_ix ix_tup (pv 0) pe_int (fun _ _ => rfl)) (pa_cons (pe_bltn (v := .ty "str") (by rfl) T.str (by decide +kernel) rfl) pa_nil))))) (pw_or1 (pt_cmpR (HD.op_notIn_dt T.d_PARTS) (pe_ix ix_tup (pv 0) pe_int (fun _ _ => rfl)) (pe_gr (by rfl) T.c_PARTS) (by rfl)))))))
  (pss_one (ps_ret pe_bl))
  pss_nil)
  (pss_cons (ps_asg (pv 0) (pg_star (n := 2) (i := 1) rfl (pgs_cons (pg_name (i := 3) sc_isrow.nd rfl (.inl rfl)) (pgs_star (pg_name (i := 4) sc_isrow.nd rfl (.inl rfl)) pgs_nil))))
  (pss_cons (ps_if (pt_cmpR op_ne (pe_callB call_len_seq (by rfl) T.len PySem.boot_len (pa_cons (pv 4) pa_nil)) (pe_callB call_len_seq (by rfl) T.len PySem.boot_len (pa_cons (pe_ix (HD.ix_dt T.d_PARTS) (pe_gr (by rfl) T.c_PARTS) (pv 3) (fun _ _ => rfl)) pa_nil)) (nomark _))
  (pss_one (ps_ret pe_bl))
  pss_nil)
  (pss_one (ps_ret (pe_callB (cr_all rfl) (by rfl) T.all (by decide +kernel) (pa_cons (pe_lc (own := [("kind", 5), ("part", 6)]) (g := gTup K 2 (gCons (gName 5) (gCons (gName 6) gNil))) (by rfl) sc_isrow.nd (HE.pi_zipTL (by rfl) T.zip (pa_cons (pe_ix (HD.ix_dt T.d_PARTS) (pe_gr (by rfl) T.c_PARTS) (pv 3) (fun _ _ => rfl)) (pa_cons (pv 4) pa_nil))) (blkOk_by (own := [("kind", 5), ("part", 6)]) (N := ["row", "known", "around", "word", "parts", "kind", "part"]) (sc := defScope s_isrow) (by decide +kernel)) (fun _ _ _ _ _ => (pg_tup rfl (pgs_cons (pg_name (i := 5) sc_isrow.nd rfl (.inl rfl)) (pgs_cons (pg_name (i := 6) sc_isrow.nd rfl (.inl rfl)) pgs_nil)))) (fun _ _ _ _ _ => pts_nil) (fun _ _ _ _ _ => (pcall T.D_ispart (ok_ispart T n) (hr.mono (by omega)) (by rfl) (pa_cons (pv 5) (pa_cons (pv 6) (pa_cons (pv 1) (pa_cons (pv 2) pa_nil))))))) pa_nil))))))), ?_⟩
    obtain ⟨ty, kin⟩ := dp_ty hd
    refine ⟨_, rfl, _, _, _, _, _, rfl, .ty "tuple", ty, kit_dat (by decide) kin, _, rfl, ?_⟩
    by_cases ht : kindD d = "tuple"
    · refine ite0 (by rw [decide_eq_true ht]; rfl) ?_
      obtain ⟨ds, rfl⟩ : ∃ ds, d = .tuple ds := by cases d <;> simp [kindD] at ht ⊢
      obtain ⟨a, xs, rfl, hx, hall⟩ := dp_tup hd
      have hl := dpAll_len hall
      refine ⟨_, rfl, Nat.zero_le _, fun p np => ?_⟩
      have s1 := same_upd (o := .tup []) np
      have hp : (upd H p (.tup [])) p = some (.tup []) := upd_same
      refine ⟨.tuple ds, .tuple [], s1.dp hd, .tup (stt hp) .nil, hsh, rfl, ?_⟩
      have hx1 := s1.sqt hx
      have hall1 := s1.dpAll hall
      have kn1 := hkn.same s1
      have ar1 := har.same s1
      generalize upd H p (.tup []) = H1 at s1 hx1 hall1 kn1 ar1 ⊢
      cases ds with
      | nil =>
        refine ⟨_, rfl, iteT ?_⟩
        exact q H1 s1
      | cons d0 ds =>
        refine ⟨_, rfl, ite0 rfl ?_⟩
        cases hall1 with
        | cons p0 hall1 =>
        rename_i x0 xs
        obtain ⟨ty0, kin0⟩ := dp_ty p0
        refine ⟨_, rfl, _, _, _, _, rfl, rfl, hx1, atI_nat (j := 0) rfl, _, _, _, _, _, rfl, .ty "str", ty0, kit_dat (by decide) kin0, _, rfl, ?_⟩
        by_cases hs0 : kindD d0 = "str"
        · obtain ⟨z, rfl⟩ : ∃ z, d0 = .str z := by cases d0 <;> simp [kindD] at hs0 ⊢
          cases p0
          refine ite0 (by rw [decide_eq_true hs0]; rfl) ?_
          refine ⟨_, rfl, _, _, _, _, rfl, rfl, hx1, atI_nat (j := 0) rfl, z, rfl, rfl, _, rfl, ?_⟩
          have ek := partsV_key z
          cases ez : kindsOf z with
          | none =>
            rw [ez] at ek
            refine ite1 (show (!decide (z ∈ partsV.map (·.1))) = true by rw [ek]; rfl) ?_
            have h2 := q H1 s1
            rw [show isRowD cs ls hs ps (.tuple (.str z :: ds)) = false by show (match kindsOf z with | some ks => _ | none => _) = false; rw [ez]] at h2
            exact h2
          | some ks =>
            rw [ez] at ek
            refine ite0 (show (!decide (z ∈ partsV.map (·.1))) = false by rw [ek]; rfl) ?_
            have er : isRowD cs ls hs ps (.tuple (.str z :: ds)) = (decide (ds.length = ks.length) && (ks.zip ds).all fun q => isPartD cs ls hs ps q.1 q.2) := by
              show (match kindsOf z with | some ks => _ | none => _) = _
              rw [ez]
            rw [er] at q
            have l1 : xs.length = ds.length := dpAll_len hall1
            have len4 : ds.length ≤ 10000 := by
              simp only [okD, Bool.and_eq_true, decide_eq_true_eq, List.length_cons] at hk
              omega
            refine ⟨_, rfl, a, _, rfl, hx1, by rw [List.length_cons]; omega, by rw [List.length_cons]; omega, fun sp nsp => ?_⟩
            have e1 : List.take ((V.str z :: xs).length + 1 - 2) (List.drop 1 (V.str z :: xs)) = xs := by
              rw [List.length_cons, List.drop_succ_cons, List.drop_zero, show xs.length + 1 + 1 - 2 = xs.length by omega, List.take_length]
            have e2 : List.drop ((V.str z :: xs).length + 1 - 2) (List.drop 1 (V.str z :: xs)) = [] := by
              rw [List.length_cons, List.drop_succ_cons, List.drop_zero, show xs.length + 1 + 1 - 2 = xs.length by omega, List.drop_length]
            rw [e1, e2]
            refine ⟨_, _, rfl, _, _, rfl, rfl, ?_⟩
            have s2 := same_upd (o := .lst xs) nsp
            have hsp : (upd H1 sp (.lst xs)) sp = some (.lst xs) := upd_same
            show tSeq _ _ _ _ (upd H1 sp (.lst xs))
            generalize upd H1 sp (.lst xs) = H2 at s2 hsp ⊢
            have mV := partsV_mem ez
            refine ⟨_, rfl, sp, _, rfl, .inl (sl hsp), _, rfl, _, mV, rfl, rfl, fun t ht => ⟨t, _, rfl, .inr (ht H2), rfl, _, rfl, ?_⟩⟩
            have ei : decide (V.int ((xs.length : Nat) : Int) = V.int ((ks.map V.str).length : Nat)) = decide (ds.length = ks.length) := by
              rw [List.length_map, l1]
              exact decide_eq_decide.mpr ⟨fun h => by have := V.int.inj h; omega, fun h => by rw [h]⟩
            rw [ei]
            by_cases hlen : ds.length = ks.length
            · refine ite0 (by rw [decide_eq_true hlen]; rfl) ?_
              rw [decide_eq_true hlen, Bool.true_and] at q
              refine ⟨_, rfl, _, mV, rfl, rfl, fun t ht => ⟨_, rfl, t, sp, _, _, rfl, ht H2, sl hsp, fun L nL => ?_⟩⟩
              refine lc_it (HE.walk_zipTL (xs := ks.map V.str) (ys := xs) (n := ks.length) (by rw [List.length_map]; omega)) (fun i H3 => Same H2 H3 ∧ H3 L = some (.lst ((((ks.zip ds).take i).map fun q => isPartD cs ls hs ps q.1 q.2).map V.bl))) ⟨same_upd nL, upd_same⟩ (fun i H3 _ g => ⟨ht H3, sl (g.1 _ _ hsp)⟩) ?_ ?_
              · rintro i x H3 H4 hi ⟨sm, hL⟩ ⟨Tt, x1, x2, rfl, nT, rfl, g1, g2⟩
                have h2 : i < xs.length := by omega
                have h3 : i < ds.length := by omega
                dsimp only at g1 g2
                rw [List.getElem?_map, List.getElem?_eq_getElem hi] at g1
                rw [List.getElem?_eq_getElem h2] at g2
                cases g1
                cases g2
                have smT := same_upd (o := .tup [.str ks[i], xs[i]]) nT
                have s14 := s2.trans (sm.trans smT)
                refine ⟨Tt, _, rfl, stt upd_same, rfl, _, _, rfl, _, _, rfl, rfl, rfl, ?_⟩
                have okm : okD ds[i] = true := by
                  simp only [okD, Bool.and_eq_true] at hk
                  exact okAll_mem hk.2 _ (List.mem_cons_of_mem _ (List.getElem_mem h3))
                have depm : ds[i].depth ≤ n := by
                  have := depthAll_mem (List.mem_cons_of_mem (PyData.str z) (List.getElem_mem h3))
                  simp only [PyData.depth] at hdep
                  omega
                refine ⟨_, rfl, _, rfl, _, rfl, _, rfl, ks[i], xs[i], ds[i], kn, ar, cs, ls, hs, ps, rfl, s14.dp (dpAll_at hall1 h2 h3), okm, depm, kn1.same s14, ar1.same s14, fun H5 s5 => ?_⟩
                refine ⟨_, s5 _ _ (smT _ _ hL), ?_, ((sm.trans smT).trans s5).own nL, ?_⟩
                · rw [List.length_map, List.length_map]
                  refine small1000 (Nat.le_trans (List.length_take_le _ _) ?_)
                  have := kinds_len ez
                  omega
                · rw [upd_same, List.take_add_one, List.getElem?_eq_getElem (by rw [List.length_zip]; omega), List.getElem_zip, List.map_append, List.map_append]
                  rfl
              · rintro H3 ⟨sm, hL⟩
                rw [List.take_of_length_le (by rw [List.length_zip]; omega)] at hL
                refine ⟨L, _, rfl, sl hL, ?_⟩
                rw [List.all_map]
                exact q H3 (s1.trans (s2.trans sm))
            · refine ite1 (by rw [decide_eq_false hlen]; rfl) ?_
              have h2 := q H2 (s1.trans s2)
              rw [decide_eq_false hlen, Bool.false_and] at h2
              exact h2
        · refine ite1 (by rw [decide_eq_false hs0]; rfl) ?_
          have h2 := q H1 s1
          rw [show isRowD cs ls hs ps (.tuple (d0 :: ds)) = false by cases d0 <;> first | rfl | exact absurd rfl hs0] at h2
          exact h2
    · refine ite1 (by rw [decide_eq_false ht]; rfl) ?_
      have h2 := q H (Same.refl H)
      rw [show isRowD cs ls hs ps d = false by cases d <;> first | rfl | exact absurd rfl ht] at h2
      exact h2
end
end TP
namespace TP
open PySem PySem.Spec PyProof.Rows L2 HX HB HG HU HH HD HS
/-! ### what is around an inner body -/
def aroundP (z h nm : Str) (ps : List (Str × Str)) : List (Str × Str) :=
  if z = "start" then ps.take ((ps.map (·.1)).idxOf h + 1) else if z = "nest" ∨ z = "within" then ps ++ [(nm, z)] else ps
section
variable {P : Program} {w : World} {K : PySem.W.Frag} {mg : Str → Option Value} {base : Heap}
def spAround (K : PySem.W.Frag) : Sp := fun vs H Q _ => ∃ (a ar : Addr) (xs : List V) (z h nm : Str) (ps : List (Str × Str)), vs = [.ref a, .ref ar] ∧ SqT K H a xs ∧ xs[0]? = some (.str z) ∧ Ar K H ar ps ∧ ps.length + 1 ≤ 1000 ∧
  (z = "start" → xs[1]? = some (.str h) ∧ h ∈ ps.map (·.1)) ∧ (z = "nest" ∨ z = "within" → atI xs (-2) = some (.str nm)) ∧
  ∀ (ar' : Addr) (H' : Hp), Same H H' → Ar K H' ar' (aroundP z h nm ps) → Q (.ref ar') H'
theorem in_two' (c x y : Str) : inV (.str c) [.str x, .str y] = decide (c = x ∨ c = y) := by
  have e := inV_strs c [x, y]
  rw [show ([x, y].map V.str) = [.str x, .str y] from rfl] at e
  rw [e]
  exact decide_eq_decide.mpr (by simp)
theorem ok_around (T : Tp K w mg) : FnOk P w K mg base CX0 1 T.f_around T.fd_around ["row", "around"] (spAround K) := by
  refine T.D_around.F.ok sc_around (fun vs H Q E h => ?_) (fun cdv A outer s H vs Q E hr h => ?_)
  · obtain ⟨a, ar, xs, z, h, nm, ps, rfl, _⟩ := h
    rfl
  · obtain ⟨a, ar, xs, z, h, nm, ps, rfl, hx, hz, har, hfew, hst, hnw, q⟩ := h
    refine ⟨_, (pss_cons (ps_if (pt_cmpR op_eq (pe_ix ix_tup (pv 0) pe_int (fun _ _ => rfl)) pe_str (nomark _))
  (pss_one (ps_ret (pe_slice HT2.sl_tupA (pv 1) po_none (po_some (pe_op op_add (pe_bm PySem.F.plainAttrs_list PySem.F.slot_list_index PySem.F.type_list_index mt_index (pe_lc (own := [("name", 2), ("word", 3)]) (g := gTup K 2 (gCons (gName 2) (gCons (gName 3) gNil))) (by rfl) sc_around.nd (pi_tup (pv 1)) (blkOk_by (own := [("name", 2), ("word", 3)]) (N := ["row", "around", "name", "word"]) (sc := defScope s_around) (by decide +kernel)) (fun _ _ _ _ _ => (pg_tup rfl (pgs_cons (pg_name (i := 2) sc_around.nd rfl (.inl rfl)) (pgs_cons (pg_name (i := 3) sc_around.nd rfl (.inl rfl)) pgs_nil)))) (fun _ _ _ _ _ => pts_nil) (fun _ _ _ _ _ => (pv 2))) (pa_cons (pe_ix ix_tup (pv 0) pe_int (fun _ _ => rfl)) pa_nil)) pe_int)))))
  pss_nil)
  (pss_cons (ps_if (pt_cmpR op_in_seq (pe_ix ix_tup (pv 0) pe_int (fun _ _ => rfl)) (pe_tup (pa_cons pe_str (pa_cons pe_str pa_nil))) (by rfl))
  (pss_one (ps_ret (pe_op HT2.op_catA (pv 1) (pe_tup (pa_cons (pe_tup (pa_cons (pe_ix ix_tup (pv 0) (pe_un un_neg pe_int) (fun _ _ => rfl)) (pa_cons (pe_ix ix_tup (pv 0) pe_int (fun _ _ => rfl)) pa_nil))) pa_nil)))))
  pss_nil)
  (pss_one (ps_ret (pv 1))))), ?_⟩
    have at0 := atI_nat hz
    refine ⟨_, rfl, _, _, _, _, rfl, rfl, hx, at0, rfl, _, rfl, ?_⟩
    rw [es_str]
    refine ite2 (fun h1 => ?_) (fun h1 => ?_)
    · have h1 := of_decide_eq_true h1
      obtain ⟨k1, k2⟩ := hst h1
      rw [show aroundP z h nm ps = ps.take ((ps.map (·.1)).idxOf h + 1) by unfold aroundP; rw [if_pos h1]] at q
      obtain ⟨ts, a1, a2⟩ := har.ex
      have tl : ts.length = ps.length := a2.length
      refine ⟨_, rfl, _, rfl, ar, rfl, ⟨_, a1⟩, fun L nL => lc_it (walk_tup (xs := ts.map V.ref)) (fun i H2 => Same H H2 ∧ H2 L = some (.lst (((ps.take i).map (·.1)).map V.str))) ⟨same_upd nL, upd_same⟩ (fun i H2 _ g => g.1.sqt a1) ?_ ?_⟩
      · rintro i x H2 H3 hi ⟨sm, hL⟩ ⟨rfl, hx⟩
        rw [List.length_map] at hi
        rw [List.getElem?_map, List.getElem?_eq_getElem hi] at hx
        cases hx
        obtain ⟨p, e1, e2⟩ := paired_at a2 (List.getElem?_eq_getElem hi)
        refine ⟨_, _, rfl, sm.sqt e2, rfl, _, _, rfl, _, _, rfl, rfl, rfl, ?_⟩
        refine ⟨_, rfl, _, hL, ?_, sm.own nL, ?_⟩
        · rw [List.length_map, List.length_map]
          exact small1000 (Nat.le_trans (List.length_take_le _ _) (by omega))
        · rw [upd_same, List.take_add_one, e1, List.map_append, List.map_append]
          rfl
      · rintro H2 ⟨sm, hL⟩
        rw [List.length_map, tl, List.take_length] at hL
        have hj : (ps.map (·.1)).idxOf h < (ps.map (·.1)).length := List.idxOf_lt_length_of_mem k2
        have eqs : ∀ y z : Str, eqV (.str y) (.str z) = decide (y = z) := fun y z => by
          simp only [eqV]
          by_cases e : y = z
          · subst e; simp
          · rw [decide_eq_false e]; exact beq_eq_false_iff_ne.mpr e
        refine ⟨.inl ⟨rfl, _, sl hL⟩, _, rfl, _, _, _, _, rfl, rfl, sm.sqt hx, atI_nat (j := 1) k1, ?_⟩
        refine ⟨L, _, .str h, (ps.map (·.1)).idxOf h, .str h, rfl, rfl, sl hL, rfl, flat_strs _, ?_, ?_, ?_, _, _, rfl, rfl, ?_⟩
        · rw [List.getElem?_map, List.getElem?_eq_getElem hj, List.getElem_idxOf hj]
          rfl
        · rw [eqs]; exact decide_eq_true rfl
        · intro m z' hm hz'
          rw [List.getElem?_map] at hz'
          cases e : (ps.map (·.1))[m]? with
          | none => rw [e] at hz'; cases hz'
          | some y =>
            rw [e] at hz'
            cases hz'
            rw [eqs]
            refine decide_eq_false fun ey => ?_
            subst ey
            obtain ⟨hm2, e2⟩ := List.getElem?_eq_some_iff.mp e
            have h3 := List.not_of_lt_findIdx (p := (· == y)) (xs := ps.map (·.1)) hm
            rw [e2] at h3
            simp at h3
        · have har2 := har.same sm
          obtain ⟨ts2, b1, b2⟩ := har2.ex
          have tl2 : ts2.length = ps.length := b2.length
          generalize (ps.map (·.1)).idxOf h = j at hj q ⊢
          rw [List.length_map] at hj
          have ej : ((j : Int) + 1) = ((j + 1 : Nat) : Int) := by omega
          refine ⟨_, rfl, ar, _, rfl, b1, fun hw => ?_, fun hw p np => ?_⟩
          · have e : ps.take (j + 1) = ps := by
              have h2 := hw.2
              rw [ej, HT.sIx_nat, List.length_map, tl2] at h2
              exact List.take_of_length_le (by omega)
            rw [e] at q
            exact q ar H2 sm har2
          · have s3 := same_upd (o := .tup (cutV (ts2.map V.ref) none (some ((j : Int) + 1)))) np
            have ec : cutV (ts2.map V.ref) none (some ((j : Int) + 1)) = (ts2.take (j + 1)).map V.ref := by
              rw [ej, cut_to, List.map_take]
            refine q p _ (sm.trans s3) ⟨⟨ts2.take (j + 1), stt (by rw [upd_same, ec]), ?_⟩, by rw [List.length_take]; omega⟩
            have pt : ∀ {l : List Addr} {m : List (Str × Str)} (k : Nat), Paired (fun t (p : Str × Str) => SqT K H2 t [.str p.1, .str p.2]) l m → Paired (fun t (p : Str × Str) => SqT K H2 t [.str p.1, .str p.2]) (l.take k) (m.take k) := by
              intro l m k hp
              induction hp generalizing k with
              | nil => rw [List.take_nil, List.take_nil]; exact .nil
              | cons x t ih =>
                cases k with
                | zero => exact .nil
                | succ k => rw [List.take_succ_cons, List.take_succ_cons]; exact .cons x (ih k)
            exact paired_imp (fun _ _ h => s3.sqt h) (pt (j + 1) b2)
    refine ⟨_, rfl, _, _, _, _, rfl, rfl, hx, at0, by show 2 ≤ sizeLine; decide, fun p np => ?_⟩
    have s1 := same_upd (o := .tup [.str "nest", .str "within"]) np
    refine ⟨p, _, rfl, .inr (stt upd_same), rfl, rfl, _, rfl, ?_⟩
    rw [if_neg Bool.false_ne_true, in_two']
    have n1 : z ≠ "start" := fun e => h1 (decide_eq_true e)
    refine ite2 (fun h2 => ?_) (fun h2 => ?_)
    · have h2 := of_decide_eq_true h2
      rw [show aroundP z h nm ps = ps ++ [(nm, z)] by unfold aroundP; rw [if_neg n1, if_pos h2]] at q
      have har1 := har.same s1
      have hx1 := s1.sqt hx
      generalize upd H p (.tup [.str "nest", .str "within"]) = H1 at s1 har1 hx1 ⊢
      obtain ⟨ts, b1, b2⟩ := har1.ex
      have tl : ts.length = ps.length := b2.length
      refine ⟨_, rfl, _, rfl, _, rfl, a, _, _, _, rfl, rfl, hx1, hnw h2, _, rfl, _, _, _, _, rfl, rfl, hx1, at0, by show 2 ≤ sizeLine; decide, fun t nt => ?_⟩
      have s2 := same_upd (o := .tup [.str nm, .str z]) nt
      have ht : (upd H1 t (.tup [.str nm, .str z])) t = some (.tup [.str nm, .str z]) := upd_same
      generalize upd H1 t (.tup [.str nm, .str z]) = H2 at s2 ht ⊢
      refine ⟨by show 1 ≤ sizeLine; decide, fun t1 nt1 => ?_⟩
      have s3 := same_upd (o := .tup [.ref t]) nt1
      have ht1 : (upd H2 t1 (.tup [.ref t])) t1 = some (.tup [.ref t]) := upd_same
      generalize upd H2 t1 (.tup [.ref t]) = H3 at s3 ht1 ⊢
      have s13 := s2.trans s3
      refine ⟨ar, t1, _, [.ref t], rfl, rfl, s13.sqt b1, stt ht1, by rw [List.length_map]; exact Evl.sz_of (by show ts.length + 1 ≤ _; omega), fun e => ?_, (fun _ e => nomatch e), fun _ _ p2 np2 => ?_⟩
      · have e0 : ps = [] := by
          have := congrArg List.length e
          rw [List.length_map, List.length_nil] at this
          exact List.length_eq_zero_iff.mp (by omega)
        subst e0
        exact q t1 H3 (s1.trans s13) ⟨⟨[t], stt ht1, .cons (stt (s3 _ _ ht)) .nil⟩, by show 1 ≤ 1000; decide⟩
      · have s4 := same_upd (o := .tup (ts.map V.ref ++ [.ref t])) np2
        refine q p2 _ (s1.trans (s13.trans s4)) ⟨⟨ts ++ [t], stt (by rw [upd_same, List.map_append]; rfl), ?_⟩, by rw [List.length_append]; exact hfew⟩
        exact (paired_imp (fun _ _ h => (s13.trans s4).sqt h) b2).snoc (stt ((s3.trans s4) _ _ ht))
    · rw [show aroundP z h nm ps = ps by unfold aroundP; rw [if_neg n1, if_neg (fun e => h2 (decide_eq_true e))]] at q
      exact ⟨_, rfl, q ar _ s1 (har.same s1)⟩
end
end TP
namespace TP
open PySem PySem.Spec PyProof.Rows L2 HX HB HG HU HH HD HS
/-! ### the first wrong place -/
def firstSome {α β : Type} (f : Nat → α → Option β) : Nat → List α → Option β
  | _, [] => none
  | i, x :: xs => match f i x with
    | some b => some b
    | none => firstSome f (i + 1) xs
def wordD : PyData → Str
  | .tuple (.str z :: _) => z
  | _ => ""
def homeD : PyData → Str
  | .tuple (_ :: .str h :: _) => h
  | _ => ""
def txtD : PyData → Str
  | .str z => z
  | _ => ""
def lastD : PyData → Str
  | .tuple ds => txtD (ds.getD (ds.length - 2) .none)
  | _ => ""
def arD (d : PyData) (ps : List (Str × Str)) : List (Str × Str) := aroundP (wordD d) (homeD d) (lastD d) ps
def bodiesD : PyData → List PyData
  | .tuple (.str z :: ds) => match kindsOf z with
    | some ks => bodiesV ks ds
    | none => []
  | _ => []
def rowsD : PyData → List PyData
  | .tuple ds => ds
  | _ => []
def oftD (d : PyData) : Int := if wordD d = "often" then 1 else 0
def wrongD (cs ls hs : List Str) : Nat → List PyData → List Int → List (Str × Str) → Int → Option (List Int)
  | 0, _, _, _, _ => none
  | n + 1, rows, place, ps, oft => firstSome (fun i row =>
      if 19 < place.length + 1 ∨ isRowD cs ls hs ps row = false then some (place ++ [(i : Int)])
      else if 3 < oft + oftD row then some (place ++ [(i : Int)])
      else firstSome (fun j b => wrongD cs ls hs n (rowsD b) (place ++ [(i : Int)] ++ [(j : Int)]) (arD row ps) (oft + oftD row)) 0 (bodiesD row)) 0 rows
/-- what a right row has -/
structure RowOk (cs ls hs : List Str) (ps : List (Str × Str)) (d : PyData) (z : Str) (ks : List Str) (ds : List PyData) : Prop where
  eq : d = .tuple (.str z :: ds)
  ks_ : kindsOf z = some ks
  len : ds.length = ks.length
  parts : ∀ q ∈ ks.zip ds, isPartD cs ls hs ps q.1 q.2 = true
theorem row_ok {cs ls hs : List Str} {ps : List (Str × Str)} {d : PyData} (h : isRowD cs ls hs ps d = true) : ∃ z ks ds, RowOk cs ls hs ps d z ks ds := by
  unfold isRowD at h
  split at h
  · rename_i z ds
    cases e : kindsOf z with
    | none => rw [e] at h; cases h
    | some ks =>
      rw [e] at h
      simp only [Bool.and_eq_true, decide_eq_true_eq] at h
      exact ⟨z, ks, ds, rfl, e, h.1, fun q hq => List.all_eq_true.mp h.2 q hq⟩
  · cases h
theorem mergeZ_mem : ∀ (ps acc : List (Str × Str)) (z : Str), z ∈ (mergeZ acc ps).map (·.1) → z ∈ acc.map (·.1) ∨ z ∈ ps.map (·.1)
  | [], acc, z, h => .inl h
  | p :: ps, acc, z, h => by
    rcases mergeZ_mem ps (putZ acc p.1 p.2) z h with h | h
    · rw [putZ_keys] at h
      split at h
      · exact .inl h
      · rcases List.mem_append.mp h with h | h
        · exact .inl h
        · exact .inr (by rw [List.mem_singleton.mp h, List.map_cons]; exact List.mem_cons_self ..)
    · exact .inr (by rw [List.map_cons]; exact List.mem_cons_of_mem _ h)
theorem lookW_mem {ps : List (Str × Str)} {z w : Str} (h : lookW ps z = some w) : z ∈ ps.map (·.1) := by
  unfold lookW lookS at h
  cases e : (mergeZ [] ps).find? fun p => decide (p.1 = z) with
  | none => rw [e] at h; cases h
  | some q =>
    have h1 := List.mem_of_find?_eq_some e
    have h2 : q.1 = z := by have := List.find?_some e; simpa using this
    rcases mergeZ_mem ps [] z (List.mem_map.mpr ⟨q, h1, h2⟩) with h | h
    · cases h
    · exact h
theorem part_home {cs ls hs : List Str} {ps : List (Str × Str)} {d : PyData} (h : isPartD cs ls hs ps "home" d = true) : ∃ z, d = .str z ∧ z ∈ ps.map (·.1) := by
  have e : isPartD cs ls hs ps "home" d = strPart d fun z => namePart "home" z cs ls hs ps := rfl
  rw [e] at h
  cases d with
  | str z =>
    refine ⟨z, rfl, ?_⟩
    have h2 : (isNameL z && decide (lookW ps z = some ("nest" : Str))) = true := h
    rw [Bool.and_eq_true] at h2
    exact lookW_mem (of_decide_eq_true h2.2)
  | _ => cases h
theorem part_scope {cs ls hs : List Str} {ps : List (Str × Str)} {d : PyData} (h : isPartD cs ls hs ps "scope" d = true) : ∃ z, d = .str z := by
  have e : isPartD cs ls hs ps "scope" d = strPart d fun z => namePart "scope" z cs ls hs ps := rfl
  rw [e] at h
  cases d with
  | str z => exact ⟨z, rfl⟩
  | _ => cases h
theorem part_body {cs ls hs : List Str} {ps : List (Str × Str)} {d : PyData} (h : isPartD cs ls hs ps "body" d = true) : d = .tuple (rowsD d) := by
  have e : isPartD cs ls hs ps "body" d = decide (kindD d = "tuple") := rfl
  rw [e] at h
  cases d <;> first | rfl | exact absurd (of_decide_eq_true h) (by simp [kindD])
theorem bodies_parts : ∀ {ks : List Str} {ds : List PyData} {P : PyData → Prop}, (∀ q ∈ ks.zip ds, q.1 = "body" → P q.2) → ∀ b ∈ bodiesV ks ds, P b
  | [], _, P, _, b, hb => by simp [bodiesV] at hb
  | k :: ks, [], P, _, b, hb => by simp [bodiesV] at hb
  | k :: ks, d :: ds, P, h, b, hb => by
    have ih := bodies_parts (ks := ks) (ds := ds) (P := P) fun q hq => h q (by rw [List.zip_cons_cons]; exact List.mem_cons_of_mem _ hq)
    simp only [bodiesV] at hb
    split at hb
    · rename_i hk
      rcases List.mem_cons.mp hb with rfl | hb
      · exact h (k, b) (by rw [List.zip_cons_cons]; exact List.mem_cons_self ..) hk
      · exact ih b hb
    · exact ih b hb
theorem bodiesV_mem {α : Type} : ∀ {ks : List Str} {ds : List α} {b : α}, b ∈ bodiesV ks ds → b ∈ ds
  | [], _, b, h => by simp [bodiesV] at h
  | k :: ks, [], b, h => by simp [bodiesV] at h
  | k :: ks, d :: ds, b, h => by
    simp only [bodiesV] at h
    split at h
    · rcases List.mem_cons.mp h with rfl | h
      · exact List.mem_cons_self ..
      · exact List.mem_cons_of_mem _ (bodiesV_mem h)
    · exact List.mem_cons_of_mem _ (bodiesV_mem h)
theorem kinds_start : kindsOf "start" = some (["home", "body"] : List Str) := rfl
theorem kinds_nest : kindsOf "nest" = some (["scope", "body"] : List Str) := rfl
theorem kinds_within : kindsOf "within" = some (["span", "scope", "body"] : List Str) := rfl
/-- data that the rules take, of depth n at most -/
structure Good (d : PyData) (n : Nat) : Prop where
  ok : okD d = true
  lay : PyData.canLay0 d = true
  dep : d.depth ≤ n
theorem canLay_mem : ∀ {xs : List PyData}, PyData.canLayAll0 xs = true → ∀ x ∈ xs, PyData.canLay0 x = true
  | y :: ys, h, x, hx => by
    simp only [PyData.canLayAll0, Bool.and_eq_true] at h
    rcases List.mem_cons.mp hx with rfl | hx
    · exact h.1
    · exact canLay_mem h.2 x hx
theorem Good.item {ds : List PyData} {n : Nat} (g : Good (.tuple ds) (n + 1)) {d : PyData} (h : d ∈ ds) : Good d n := by
  obtain ⟨h1, h2, h3⟩ := g
  simp only [okD, Bool.and_eq_true] at h1
  simp only [PyData.depth] at h3
  refine ⟨okAll_mem h1.2 d h, ?_, by have := depthAll_mem h; omega⟩
  exact canLay_mem (by simpa [PyData.canLay0] using h2) d h
theorem Good.shaped {d : PyData} {n : Nat} (g : Good d n) (hn : n ≤ 64) : SeqAt.shaped d = true := by
  show (PyData.canLay0 d && decide (d.depth ≤ 64)) = true
  rw [g.lay, decide_eq_true (Nat.le_trans g.dep hn)]
  rfl
theorem Good.mono {d : PyData} {n m : Nat} (g : Good d n) (h : n ≤ m) : Good d m := ⟨g.ok, g.lay, Nat.le_trans g.dep h⟩
end TP
namespace TP
open PySem PySem.Spec PyProof.Rows L2 HX HB HG HU HH HD HS
def Res (K : PySem.W.Frag) (H : Hp) (r : Option (List Int)) (v : V) : Prop := match r with
  | none => v = .non
  | some p => ∃ t : Addr, v = .ref t ∧ SqT K H t (p.map V.int)
theorem Res.same {K : PySem.W.Frag} {H H' : Hp} {r : Option (List Int)} {v : V} (h : Res K H r v) (s : Same H H') : Res K H' r v := by
  cases r with
  | none => exact h
  | some p => obtain ⟨t, e, h⟩ := h; exact ⟨t, e, s.sqt h⟩
/-- what one row comes to -/
def rowF (cs ls hs : List Str) (n : Nat) (place : List Int) (ps : List (Str × Str)) (oft : Int) (i : Nat) (row : PyData) : Option (List Int) :=
  if 19 < place.length + 1 ∨ isRowD cs ls hs ps row = false then some (place ++ [(i : Int)])
  else if 3 < oft + oftD row then some (place ++ [(i : Int)])
  else firstSome (fun j b => wrongD cs ls hs n (rowsD b) (place ++ [(i : Int)] ++ [(j : Int)]) (arD row ps) (oft + oftD row)) 0 (bodiesD row)
theorem firstSome_at {α β : Type} (f : Nat → α → Option β) {xs : List α} {i : Nat} (h : i < xs.length) : firstSome f i (xs.drop i) = match f i xs[i] with
    | some b => some b
    | none => firstSome f (i + 1) (xs.drop (i + 1)) := by
  rw [List.drop_eq_getElem_cons h]
  rfl
theorem dpAll_bodies {K : PySem.W.Frag} {H : Hp} : ∀ (ks : List Str) {xs : List V} {ds : List PyData}, DpAll K H xs ds → DpAll K H (bodiesV ks xs) (bodiesV ks ds)
  | [], _, _, _ => .nil
  | k :: ks, _, _, .nil => .nil
  | k :: ks, _, _, .cons p t => by
    have ih := dpAll_bodies ks t
    simp only [bodiesV]
    split
    · exact .cons p ih
    · exact ih
theorem dpAll_cons {K : PySem.W.Frag} {H : Hp} {xs : List V} {d : PyData} {ds : List PyData} (h : DpAll K H xs (d :: ds)) : ∃ x ys, xs = x :: ys ∧ Dp K H x d ∧ DpAll K H ys ds := by
  cases h with
  | cons p t => exact ⟨_, _, rfl, p, t⟩
theorem dpAll_nil {K : PySem.W.Frag} {H : Hp} {xs : List V} (h : DpAll K H xs []) : xs = [] := by
  cases h
  rfl
theorem around_ok {cs ls hs : List Str} {ps : List (Str × Str)} {z : Str} {ks : List Str} {ds : List PyData} {K : PySem.W.Frag} {H : Hp} {rxs : List V} (R : RowOk cs ls hs ps (.tuple (.str z :: ds)) z ks ds) (rall : DpAll K H rxs ds) :
    (z = "start" → (V.str z :: rxs)[1]? = some (.str (homeD (.tuple (.str z :: ds)))) ∧ homeD (.tuple (.str z :: ds)) ∈ ps.map (·.1)) ∧
    (z = "nest" ∨ z = "within" → atI (V.str z :: rxs) (-2) = some (.str (lastD (.tuple (.str z :: ds))))) := by
  obtain ⟨_, hk, hl, hp⟩ := R
  refine ⟨fun e => ?_, fun e => ?_⟩
  · subst e
    rw [kinds_start] at hk
    cases hk
    match ds, rall, hl, hp with
    | [d1, d2], rall, _, hp =>
      obtain ⟨h, rfl, hm⟩ := part_home (hp ("home", d1) (List.mem_cons_self ..))
      cases rall with
      | cons p1 rall => cases p1; exact ⟨rfl, hm⟩
  · rcases e with rfl | rfl
    · rw [kinds_nest] at hk
      cases hk
      match ds, rall, hl, hp with
      | [d1, d2], rall, _, hp =>
        obtain ⟨h, rfl⟩ := part_scope (hp ("scope", d1) (List.mem_cons_self ..))
        obtain ⟨x1, r1, rfl, p1, rall⟩ := dpAll_cons rall
        obtain ⟨x2, r2, rfl, p2, rall⟩ := dpAll_cons rall
        cases dpAll_nil rall
        cases p1
        rfl
    · rw [kinds_within] at hk
      cases hk
      match ds, rall, hl, hp with
      | [d0, d1, d2], rall, _, hp =>
        obtain ⟨h, rfl⟩ := part_scope (hp ("scope", d1) (List.mem_cons_of_mem _ (List.mem_cons_self ..)))
        obtain ⟨x0, r0, rfl, p0, rall⟩ := dpAll_cons rall
        obtain ⟨x1, r1, rfl, p1, rall⟩ := dpAll_cons rall
        obtain ⟨x2, r2, rfl, p2, rall⟩ := dpAll_cons rall
        cases dpAll_nil rall
        cases p1
        rfl
theorem around_len (z h nm : Str) (ps : List (Str × Str)) : (aroundP z h nm ps).length ≤ ps.length + 1 := by
  unfold aroundP
  split
  · rw [List.length_take]; omega
  · split
    · rw [List.length_append, List.length_singleton]; omega
    · omega
section
variable {P : Program} {w : World} {K : PySem.W.Frag} {mg : Str → Option Value} {base : Heap}
def spWrong (K : PySem.W.Frag) (N n : Nat) : Sp := fun vs H Q _ => ∃ (b pl kn ar : Addr) (rows : List PyData) (place : List Int) (cs ls hs : List Str) (ps : List (Str × Str)) (oft : Int), vs = [.ref b, .ref pl, .ref kn, .ref ar, .int oft] ∧
  Dp K H (.ref b) (.tuple rows) ∧ Good (.tuple rows) n ∧ n ≤ N ∧ Kn K H kn cs ls hs ∧ Ar K H ar ps ∧ SqT K H pl (place.map V.int) ∧ ps.length ≤ place.length ∧ place.length ≤ 20 ∧ 0 ≤ oft ∧ oft ≤ 10 ∧
  ∀ v H', Same H H' → Res K H' (wrongD cs ls hs n rows place ps oft) v → Q v H'
theorem ok_wrong (T : Tp K w mg) (N : Nat) (hN : N ≤ 64) : ∀ n, FnOk P w K mg base CX0 (n + (N + 4) + 1) T.f_wrong T.fd_wrong ["body", "place", "known", "around", "oftens"] (spWrong K N n) := rec_fn (c := N + 4) (sp := spWrong K N) fun n ih => by
  refine T.D_wrong.F.ok sc_wrong (fun vs H Q E h => ?_) (fun cdv A outer s H vs Q E hr h => ?_)
  · obtain ⟨b, pl, kn, ar, rows, place, cs, ls, hs, ps, oft, rfl, _⟩ := h
    rfl
  · obtain ⟨b, pl, kn, ar, rows, place, cs, ls, hs, ps, oft, rfl, hd, good, hnN, hkn, har, hpl, hps, hp20, o0, o1, q⟩ := h
    refine ⟨_, (pss_cons (ps_for PassesOwn.never rfl (HE.pi_enumT (by rfl) T.enumerate (pa_cons (pv 0) pa_nil)) (pg_tup rfl (pgs_cons (pg_name (i := 5) sc_wrong.nd rfl (.inl rfl)) (pgs_cons (pg_name (i := 6) sc_wrong.nd rfl (.inl rfl)) pgs_nil)))
  (Evl.pss_cut (ps_set (i := 7) sc_wrong.nd rfl (.inl rfl) (pe_op HT2.op_catA (pv 1) (pe_tup (pa_cons (pv 5) pa_nil))))
  (pss_cons (ps_if (PW.pt (pw_or (pt_cmpR op_gt (pe_callB call_len_seq (by rfl) T.len PySem.boot_len (pa_cons (pv 7) pa_nil)) (pe_op op_add (pe_op op_mul pe_int (pe_gi (by rfl) T.c_MOST_DEEP)) pe_int) (nomark _)) (pw_or1 (pt_not (pt_val (pcall T.D_isrow (ok_isrow T N) (hr.mono (by omega)) (by rfl) (pa_cons (pv 6) (pa_cons (pv 2) (pa_cons (pv 3) pa_nil)))))))))
  (pss_one (ps_ret (pv 7)))
  pss_nil)
  (pss_cons (ps_set (i := 8) sc_wrong.nd rfl (.inl rfl) (pe_op op_add (pv 4) (pe_callTy call_int1 (by rfl) T.int (by decide +kernel) (pa_cons (pe_cmpR op_eq (pe_ix ix_tup (pv 6) pe_int (fun _ _ => rfl)) pe_str (nomark _)) pa_nil))))
  (pss_cons (ps_if (pt_cmpR op_gt (pv 8) (pe_op op_add (pe_gi (by rfl) T.c_MOST_OFTEN) pe_int) (nomark _))
  (pss_one (ps_ret (pv 7)))
  pss_nil)
  (pss_one (ps_for PassesOwn.never rfl (pi_enum (by rfl) T.enumerate (pa_cons (pcall T.D_bodies (ok_bodies T) (hr.mono (by omega)) (by rfl) (pa_cons (pv 6) pa_nil)) pa_nil)) (pg_tup rfl (pgs_cons (pg_name (i := 9) sc_wrong.nd rfl (.inl rfl)) (pgs_cons (pg_name (i := 10) sc_wrong.nd rfl (.inl rfl)) pgs_nil)))
  (pss_cons (ps_set (i := 11) sc_wrong.nd rfl (.inl rfl) (pcall T.D_wrong ih (hr.mono (by omega)) (by rfl) (pa_cons (pv 10) (pa_cons (pe_op HT2.op_catA (pv 7) (pe_tup (pa_cons (pv 9) pa_nil))) (pa_cons (pv 2) (pa_cons (pcall T.D_around (ok_around T) (hr.mono (by omega)) (by rfl) (pa_cons (pv 6) (pa_cons (pv 3) pa_nil))) (pa_cons (pv 8) pa_nil)))))))
  (pss_one (ps_if (pt_cmpR op_notN (pv 11) pe_non (nomark _))
  (pss_one (ps_ret (pv 11)))
  pss_nil))))))))))
  (pss_one (ps_ret pe_non))), ?_⟩
    obtain ⟨m, rfl⟩ : ∃ m, n = m + 1 := by
      have := good.dep
      simp only [PyData.depth] at this
      exact ⟨n - 1, by omega⟩
    obtain ⟨b', xs, e, hx, hall⟩ := dp_tup hd
    cases e
    have lx : xs.length = rows.length := dpAll_len hall
    have eW : wrongD cs ls hs (m + 1) rows place ps oft = firstSome (rowF cs ls hs m place ps oft) 0 rows := rfl
    refine ⟨_, rfl, b, xs, rfl, hx, for_it (HE.walk_enumT (xs := xs)) (fun i σ H2 => (∃ y5 y6 y7 y8 y9 y10 y11, σ = [some (.ref b), some (.ref pl), some (.ref kn), some (.ref ar), some (.int oft), y5, y6, y7, y8, y9, y10, y11]) ∧ Same H H2 ∧ firstSome (rowF cs ls hs m place ps oft) i (rows.drop i) = firstSome (rowF cs ls hs m place ps oft) 0 rows) ?_ ?_ ?_ ?_⟩
    · exact ⟨⟨_, _, _, _, _, _, _, rfl⟩, Same.refl H, by rw [List.drop_zero]⟩
    · rintro i σ H2 _ ⟨_, s2, _⟩
      exact s2.sqt hx
    · rintro i x σ H2 H3 hi ⟨⟨y5, y6, y7, y8, y9, y10, y11, rfl⟩, s2, ef⟩ ⟨Tt, x1, x2, rfl, nT, rfl, g1, g2⟩
      cases g1
      dsimp only at g2
      rw [List.getElem?_eq_getElem hi] at g2
      cases g2
      have hi2 : i < rows.length := by omega
      have sT := same_upd (o := .tup [.int (i : Nat), xs[i]]) nT
      refine ⟨Tt, _, rfl, stt upd_same, rfl, _, _, rfl, _, _, rfl, rfl, ?_⟩
      have s3 := s2.trans sT
      generalize upd H2 Tt (.tup [.int (i : Nat), xs[i]]) = H3 at s3 ⊢
      rw [firstSome_at _ hi2] at ef
      have hrow := s3.dp (dpAll_at hall hi hi2)
      have grow : Good rows[i] m := good.item (List.getElem_mem hi2)
      generalize rows[i] = row at ef hrow grow
      generalize xs[i] = xr at hrow ⊢
      refine ⟨fun σ H4 => ∃ (hh : Addr), (∃ y8 y9 y10 y11, σ = [some (.ref b), some (.ref pl), some (.ref kn), some (.ref ar), some (.int oft), some (.int (i : Nat)), some xr, some (.ref hh), y8, y9, y10, y11]) ∧ Same H3 H4 ∧ SqT K H4 hh ((place ++ [(i : Int)]).map V.int), ?_, ?_⟩
      · refine ⟨_, rfl, _, rfl, by show 1 ≤ sizeLine; decide, fun p np => ?_⟩
        have s4 := same_upd (o := .tup [.int (i : Nat)]) np
        have hp : (upd H3 p (.tup [.int (i : Nat)])) p = some (.tup [.int (i : Nat)]) := upd_same
        generalize upd H3 p (.tup [.int (i : Nat)]) = H4 at s4 hp ⊢
        refine ⟨pl, p, _, _, rfl, rfl, (s3.trans s4).sqt hpl, stt hp, by rw [List.length_map]; exact Evl.sz_of (by show place.length + 1 ≤ _; omega), fun e => ?_, (fun _ e => nomatch e), fun _ _ p2 np2 => ?_⟩
        · have e0 : place = [] := by cases place <;> first | rfl | cases e
          subst e0
          exact ⟨p, ⟨_, _, _, _, rfl⟩, s4, stt hp⟩
        · have s5 := same_upd (o := .tup (place.map V.int ++ [.int (i : Nat)])) np2
          exact ⟨p2, ⟨_, _, _, _, rfl⟩, s4.trans s5, stt (by rw [upd_same, List.map_append]; rfl)⟩
      · rintro σ H4 ⟨hh, ⟨y8, y9, y10, y11, rfl⟩, s34, hhh⟩
        have s4 := s3.trans s34
        have hrow4 := s34.dp hrow
        have elen : decide ((2 : Int) * 9 + 1 < (((place ++ [(i : Int)]).map V.int).length : Nat)) = decide (19 < place.length + 1) := by
          rw [List.length_map, List.length_append, List.length_singleton]
          exact decide_eq_decide.mpr (by omega)
        have wrong : ∀ H5, Same H4 H5 → rowF cs ls hs m place ps oft i row = some (place ++ [(i : Int)]) → Q (.ref hh) H5 := fun H5 s5 e => by
          refine q (.ref hh) H5 (s4.trans s5) ?_
          rw [eW, ← ef, e]
          exact ⟨hh, rfl, s5.sqt hhh⟩
        refine ⟨_, rfl, hh, _, rfl, .inr hhh, _, _, rfl, rfl, .inl ⟨by decide, by decide⟩, _, _, rfl, rfl, _, _, rfl, rfl, _, rfl, ?_⟩
        rw [elen]
        refine ite2 (fun h1 => ?_) (fun h1 => ?_)
        · exact ⟨_, rfl, wrong H4 (Same.refl _) (by unfold rowF; rw [if_pos (.inl (of_decide_eq_true h1))])⟩
        have h1 : ¬ 19 < place.length + 1 := fun z => h1 (decide_eq_true z)
        refine ⟨_, rfl, _, rfl, _, rfl, xr, row, kn, ar, cs, ls, hs, ps, rfl, hrow4, grow.ok, grow.shaped (by omega), Nat.le_trans grow.dep (by omega), hkn.same s4, har.same s4, fun H5 s5 => ⟨_, rfl, ?_⟩⟩
        cases er : isRowD cs ls hs ps row with
        | false => exact ite1 rfl ⟨_, rfl, wrong H5 s5 (by unfold rowF; rw [if_pos (.inr er)])⟩
        | true =>
        refine ite0 rfl ?_
        obtain ⟨z, ks, ds, R⟩ := row_ok er
        obtain rfl := R.eq
        obtain ⟨ra, rxs, rfl, rx, rall⟩ := dp_tup (s5.dp hrow4)
        cases rall with
        | cons pz rall =>
        cases pz
        rename_i rxs
        have s45 := s4.trans s5
        have hhh5 := s5.sqt hhh
        refine ⟨_, rfl, _, rfl, _, _, _, _, rfl, rfl, rx, atI_nat (j := 0) rfl, rfl, .inr ⟨_, rfl, _, _, rfl, rfl, ?_⟩⟩
        have eo : (if decide (V.str z = V.str "often") = true then (1 : Int) else 0) = oftD (.tuple (.str z :: ds)) := by
          rw [es_str]
          unfold oftD wordD
          by_cases e : z = "often"
          · rw [if_pos (decide_eq_true e), if_pos e]
          · rw [if_neg (fun h => e (of_decide_eq_true h)), if_neg e]
        rw [eo]
        have oft01 : 0 ≤ oftD (.tuple (.str z :: ds)) ∧ oftD (.tuple (.str z :: ds)) ≤ 1 := by unfold oftD; split <;> decide
        refine ⟨_, rfl, _, _, rfl, rfl, _, _, rfl, rfl, _, rfl, ite2 (fun h2 => ?_) (fun h2 => ?_)⟩
        · have h2 : 3 < oft + oftD (.tuple (.str z :: ds)) := of_decide_eq_true h2
          exact ⟨_, rfl, wrong H5 s5 (by unfold rowF; rw [if_neg (fun h => h.elim h1 (fun e => by rw [er] at e; cases e)), if_pos h2])⟩
        have h2 : ¬ 3 < oft + oftD (.tuple (.str z :: ds)) := fun e => h2 (decide_eq_true e)
        have eF : rowF cs ls hs m place ps oft i (.tuple (.str z :: ds)) = firstSome (fun j b => wrongD cs ls hs m (rowsD b) (place ++ [(i : Int)] ++ [(j : Int)]) (arD (.tuple (.str z :: ds)) ps) (oft + oftD (.tuple (.str z :: ds)))) 0 (bodiesV ks ds) := by
          unfold rowF
          rw [if_neg (fun h => h.elim h1 (fun e => by rw [er] at e; cases e)), if_neg h2]
          have eb : bodiesD (.tuple (.str z :: ds)) = bodiesV ks ds := by
            show (match kindsOf z with | some ks => _ | none => _) = _
            rw [R.ks_]
          rw [eb]
        rw [eF] at ef
        have lr : rxs.length = ds.length := dpAll_len rall
        have lks : ks.length ≤ 3 := kinds_len R.ks_
        refine ⟨_, rfl, ra, z, ks, rxs, rfl, rx, R.ks_, fun lp H6 nlp s6 hlp => ?_⟩
        have hb6 := dpAll_bodies ks (s6.dpAll rall)
        have lb : (bodiesV ks rxs).length = (bodiesV ks ds).length := dpAll_len hb6
        have s46 := s45.trans s6
        have hhh6 := s6.sqt hhh5
        have rx6 := s6.sqt rx
        generalize hg : (fun (j : Nat) (b : PyData) => wrongD cs ls hs m (rowsD b) (place ++ [(i : Int)] ++ [(j : Int)]) (arD (.tuple (.str z :: ds)) ps) (oft + oftD (.tuple (.str z :: ds)))) = g at ef
        refine ⟨lp, bodiesV ks rxs, rfl, sl hlp, for_it (walk_enum (xs := bodiesV ks rxs)) (fun j σ H7 => (∃ y9 y10 y11, σ = [some (.ref b), some (.ref pl), some (.ref kn), some (.ref ar), some (.int oft), some (.int (i : Nat)), some (.ref ra), some (.ref hh), some (.int (oft + oftD (.tuple (.str z :: ds)))), y9, y10, y11]) ∧ Same H6 H7 ∧ firstSome g j ((bodiesV ks ds).drop j) = firstSome g 0 (bodiesV ks ds)) ?_ ?_ ?_ ?_⟩
        · exact ⟨⟨_, _, _, rfl⟩, Same.refl _, by rw [List.drop_zero]⟩
        · rintro j σ H7 _ ⟨_, s7, _⟩
          exact sl (s7 _ _ hlp)
        · rintro j x σ H7 H8 hj ⟨⟨y9, y10, y11, rfl⟩, s7, eg⟩ ⟨T2, x1, x2, rfl, nT2, rfl, g1, g2⟩
          cases g1
          dsimp only at g2
          rw [List.getElem?_eq_getElem hj] at g2
          cases g2
          have hj2 : j < (bodiesV ks ds).length := by omega
          have sT2 := same_upd (o := .tup [.int (j : Nat), (bodiesV ks rxs)[j]]) nT2
          refine ⟨T2, _, rfl, stt upd_same, rfl, _, _, rfl, _, _, rfl, rfl, ?_⟩
          have s78 := s7.trans sT2
          generalize upd H7 T2 (.tup [.int (j : Nat), (bodiesV ks rxs)[j]]) = H8 at s78 ⊢
          have hb8 := s78.dp (dpAll_at hb6 hj hj2)
          have hbm : (bodiesV ks ds)[j] ∈ bodiesV ks ds := List.getElem_mem hj2
          rw [firstSome_at _ hj2] at eg
          have ebt := bodies_parts (P := fun d => d = .tuple (rowsD d)) (fun q hq hk => part_body (by have := R.parts q hq; rw [hk] at this; exact this)) _ hbm
          have gb : Good (bodiesV ks ds)[j] m := by
            obtain ⟨m', hm⟩ : ∃ m', m = m' + 1 := by
              have := grow.dep
              simp only [PyData.depth] at this
              exact ⟨m - 1, by omega⟩
            subst hm
            exact (grow.item (List.mem_cons_of_mem _ (bodiesV_mem hbm))).mono (by omega)
          generalize (bodiesV ks ds)[j] = b0 at hb8 eg ebt gb
          generalize (bodiesV ks rxs)[j] = vb at hb8 ⊢
          obtain ⟨rb, erb⟩ : ∃ rb, rb = rowsD b0 := ⟨_, rfl⟩
          rw [← erb] at ebt
          subst ebt
          obtain ⟨bb, bxs, rfl, _, _⟩ := dp_tup (id hb8)
          have hps' := s46.trans s78
          have ao := around_ok R rall
          refine ⟨_, rfl, _, rfl, _, rfl, by show 1 ≤ sizeLine; decide, fun p np => ?_⟩
          have s9 := same_upd (o := .tup [.int (j : Nat)]) np
          have hp9 : (upd H8 p (.tup [.int (j : Nat)])) p = some (.tup [.int (j : Nat)]) := upd_same
          generalize upd H8 p (.tup [.int (j : Nat)]) = H9 at s9 hp9 ⊢
          refine ⟨hh, p, _, _, rfl, rfl, (s78.trans s9).sqt hhh6, stt hp9, by rw [List.length_map, List.length_append, List.length_singleton]; exact Evl.sz_of (by show place.length + 1 + 1 ≤ _; omega), (fun e => by simp at e), (fun _ e => nomatch e), fun _ _ p2 np2 => ?_⟩
          have s10 := same_upd (o := .tup ((place ++ [(i : Int)]).map V.int ++ [.int (j : Nat)])) np2
          have hp10 : SqT K (upd H9 p2 (.tup ((place ++ [(i : Int)]).map V.int ++ [.int (j : Nat)]))) p2 ((place ++ [(i : Int)] ++ [(j : Int)]).map V.int) := stt (by rw [upd_same, List.map_append (l₁ := place ++ [(i : Int)])]; rfl)
          generalize upd H9 p2 (.tup ((place ++ [(i : Int)]).map V.int ++ [.int (j : Nat)])) = H10 at s10 hp10 ⊢
          have s810 := s9.trans s10
          have sA := hps'.trans s810
          refine ⟨_, rfl, _, rfl, _, rfl, ra, ar, V.str z :: rxs, z, homeD (.tuple (.str z :: ds)), lastD (.tuple (.str z :: ds)), ps, rfl, (s78.trans s810).sqt rx6, rfl, har.same sA, by omega, ao.1, ao.2, fun ar' H11 s11 har' => ?_⟩
          have la := around_len z (homeD (.tuple (.str z :: ds))) (lastD (.tuple (.str z :: ds))) ps
          refine ⟨_, rfl, bb, p2, kn, ar', rb, _, cs, ls, hs, _, _, rfl, (s810.trans s11).dp hb8, gb, by omega, hkn.same (sA.trans s11), har', s11.sqt hp10, by rw [List.length_append, List.length_append, List.length_singleton, List.length_singleton]; omega, by rw [List.length_append, List.length_append, List.length_singleton, List.length_singleton]; omega, by omega, by omega, fun v H12 s12 hres => ?_⟩
          have egj : g j (.tuple rb) = wrongD cs ls hs m rb (place ++ [(i : Int)] ++ [(j : Int)]) (aroundP z (homeD (.tuple (.str z :: ds))) (lastD (.tuple (.str z :: ds))) ps) (oft + oftD (.tuple (.str z :: ds))) := by
            rw [← hg]
            dsimp only
            rw [← erb]
            rfl
          rw [← egj] at hres
          have sB := (s810.trans s11).trans s12
          refine ⟨_, rfl, rfl, _, rfl, ?_⟩
          generalize g j (.tuple rb) = r at eg hres
          cases r with
          | none =>
            cases hres
            refine ite0 rfl ?_
            exact ⟨⟨_, _, _, rfl⟩, s78.trans sB, eg⟩
          | some pp =>
            obtain ⟨t, rfl, ht⟩ := hres
            refine ite1 rfl ⟨_, rfl, ?_⟩
            refine q _ H12 (hps'.trans sB) ?_
            rw [eW, ← ef, ← eg]
            exact ⟨t, rfl, ht⟩
        · rintro σ H7 ⟨⟨y9, y10, y11, rfl⟩, s7, eg⟩
          rw [List.drop_of_length_le (by omega)] at eg
          rw [← eg] at ef
          exact ⟨⟨_, _, _, _, _, _, _, rfl⟩, s46.trans s7, ef⟩
    · rintro σ H2 ⟨⟨y5, y6, y7, y8, y9, y10, y11, rfl⟩, s2, ef⟩
      refine q .non H2 s2 ?_
      rw [eW, ← ef, List.drop_of_length_le (by omega)]
      rfl
end
end TP
namespace TP
open PySem PySem.Spec PyProof.Rows L2 HX HB HG HU HH HD HS
def flatF {α β : Type} (f : Nat → α → List β) : Nat → List α → List β
  | _, [] => []
  | i, x :: xs => f i x ++ flatF f (i + 1) xs
def placesD : Nat → List PyData → List Int → List (List Int)
  | 0, _, _ => []
  | n + 1, rows, place => flatF (fun i row => (place ++ [(i : Int)]) :: flatF (fun j b => placesD n (rowsD b) (place ++ [(i : Int)] ++ [(j : Int)])) 0 (bodiesD row)) 0 rows
theorem flatF_at {α β : Type} (f : Nat → α → List β) {xs : List α} {i : Nat} (h : i < xs.length) : flatF f i (xs.drop i) = f i xs[i] ++ flatF f (i + 1) (xs.drop (i + 1)) := by
  rw [List.drop_eq_getElem_cons h]
  rfl
theorem firstSome_none {α β : Type} {f : Nat → α → Option β} : ∀ {xs : List α} {i : Nat}, firstSome f i xs = none → ∀ k (h : k < xs.length), f (i + k) xs[k] = none
  | [], _, _, k, h => by cases h
  | x :: xs, i, e, k, h => by
    simp only [firstSome] at e
    cases ef : f i x with
    | some b => rw [ef] at e; cases e
    | none =>
      rw [ef] at e
      cases k with
      | zero => exact ef
      | succ k =>
        have := firstSome_none e k (by simpa using h)
        rw [show i + (k + 1) = i + 1 + k by omega]
        exact this
theorem rowF_none {cs ls hs : List Str} {n : Nat} {place : List Int} {ps : List (Str × Str)} {oft : Int} {i : Nat} {row : PyData} (h : rowF cs ls hs n place ps oft i row = none) : isRowD cs ls hs ps row = true ∧ place.length + 1 ≤ 19 ∧
    firstSome (fun j b => wrongD cs ls hs n (rowsD b) (place ++ [(i : Int)] ++ [(j : Int)]) (arD row ps) (oft + oftD row)) 0 (bodiesD row) = none := by
  unfold rowF at h
  split at h
  · cases h
  · rename_i h1
    split at h
    · cases h
    · refine ⟨?_, ?_, h⟩
      · cases e : isRowD cs ls hs ps row with
        | true => rfl
        | false => exact absurd (.inr e) h1
      · have : ¬ 19 < place.length + 1 := fun e => h1 (.inl e)
        omega
theorem sqt_set {K : PySem.W.Frag} {H : Hp} {t l : Addr} {xs ys zs : List V} (h : SqT K H t xs) (e : H l = some (.lst ys)) : SqT K (upd H l (.lst zs)) t xs := by
  rcases h with (h | ⟨o, h⟩) | h
  · exact .inl (.inl (by rw [upd_ne (fun q => by subst q; rw [e] at h; cases h)]; exact h))
  · exact .inl (.inr ⟨o, by rw [upd_ne (fun q => by subst q; rw [e] at h; cases h)]; exact h⟩)
  · exact .inr h
section
variable {P : Program} {w : World} {K : PySem.W.Frag} {mg : Str → Option Value} {base : Heap}
def PL (K : PySem.W.Frag) (H : Hp) (vs : List V) (ps : List (List Int)) : Prop := Paired (fun v p => ∃ t : Addr, v = .ref t ∧ SqT K H t (p.map V.int)) vs ps
theorem PL.same {K : PySem.W.Frag} {H H' : Hp} {vs : List V} {ps : List (List Int)} (h : PL K H vs ps) (s : Same H H') : PL K H' vs ps := paired_imp (fun _ _ ⟨t, e, h⟩ => ⟨t, e, s.sqt h⟩) h
theorem PL.set {K : PySem.W.Frag} {H : Hp} {vs : List V} {ps : List (List Int)} {l : Addr} {ys zs : List V} (h : PL K H vs ps) (e : H l = some (.lst ys)) : PL K (upd H l (.lst zs)) vs ps := paired_imp (fun _ _ ⟨t, e1, h⟩ => ⟨t, e1, sqt_set h e⟩) h
theorem paired_app {α β : Type} {F : α → β → Prop} : ∀ {l : List α} {m : List β} {l2 : List α} {m2 : List β}, Paired F l m → Paired F l2 m2 → Paired F (l ++ l2) (m ++ m2)
  | _, _, _, _, .nil, h => h
  | _, _, _, _, .cons x t, h => .cons x (paired_app t h)
theorem paired_len {α β : Type} {F : α → β → Prop} : ∀ {l : List α} {m : List β}, Paired F l m → l.length = m.length
  | _, _, .nil => rfl
  | _, _, .cons x t => by rw [List.length_cons, List.length_cons, paired_len t]
def spPlaces (K : PySem.W.Frag) (N n : Nat) : Sp := fun vs H Q _ => ∃ (b pl : Addr) (rows : List PyData) (place : List Int) (cs ls hs : List Str) (ps : List (Str × Str)) (oft : Int), vs = [.ref b, .ref pl] ∧
  Dp K H (.ref b) (.tuple rows) ∧ Good (.tuple rows) n ∧ n ≤ N ∧ SqT K H pl (place.map V.int) ∧ place.length ≤ 20 ∧ wrongD cs ls hs n rows place ps oft = none ∧ (placesD n rows place).length ≤ sizeLine ∧
  ∀ (l : Addr) H' vs, Same H H' → H' l = some (.lst vs) → H l = none → PL K H' vs (placesD n rows place) → Q (.ref l) H'
theorem ok_places (T : Tp K w mg) (N : Nat) (hN : N ≤ 64) : ∀ n, FnOk P w K mg base CX0 (n + 2 + 1) T.f_places T.fd_places ["body", "place"] (spPlaces K N n) := rec_fn (c := 2) (sp := spPlaces K N) fun n ih => by
  refine T.D_places.F.ok sc_places (fun vs H Q E h => ?_) (fun cdv A outer s H vs Q E hr h => ?_)
  · obtain ⟨b, pl, rows, place, cs, ls, hs, ps, oft, rfl, _⟩ := h
    rfl
  · obtain ⟨b, pl, rows, place, cs, ls, hs, ps, oft, rfl, hd, good, hnN, hpl, hp20, hno, hsz, q⟩ := h
    refine ⟨_, (pss_cons (ps_set (i := 2) sc_places.nd rfl (.inl rfl) (pe_lst pa_nil))
  (pss_cons (ps_for PassesOwn.never rfl (HE.pi_enumT (by rfl) T.enumerate (pa_cons (pv 0) pa_nil)) (pg_tup rfl (pgs_cons (pg_name (i := 3) sc_places.nd rfl (.inl rfl)) (pgs_cons (pg_name (i := 4) sc_places.nd rfl (.inl rfl)) pgs_nil)))
  (Evl.pss_cut (ps_set (i := 5) sc_places.nd rfl (.inl rfl) (pe_op HT2.op_catA (pv 1) (pe_tup (pa_cons (pv 3) pa_nil))))
  (pss_cons (ps_expr (pe_bm PySem.F.plainAttrs_list PySem.F.slot_list_append PySem.F.type_list_append mt_append (pv 2) (pa_cons (pv 5) pa_nil)))
  (pss_one (ps_for PassesOwn.never rfl (pi_enum (by rfl) T.enumerate (pa_cons (pcall T.D_bodies (ok_bodies T) (hr.mono (by omega)) (by rfl) (pa_cons (pv 4) pa_nil)) pa_nil)) (pg_tup rfl (pgs_cons (pg_name (i := 6) sc_places.nd rfl (.inl rfl)) (pgs_cons (pg_name (i := 7) sc_places.nd rfl (.inl rfl)) pgs_nil)))
  (pss_one (ps_expr (pe_bm PySem.F.plainAttrs_list PySem.F.slot_list_extend PySem.F.type_list_extend mt_extend (pv 2) (pa_cons (pcall T.D_places ih (hr.mono (by omega)) (by rfl) (pa_cons (pv 7) (pa_cons (pe_op HT2.op_catA (pv 5) (pe_tup (pa_cons (pv 6) pa_nil))) pa_nil))) pa_nil)))))))))
  (pss_one (ps_ret (pv 2))))), ?_⟩
    obtain ⟨m, rfl⟩ : ∃ m, n = m + 1 := by
      have := good.dep
      simp only [PyData.depth] at this
      exact ⟨n - 1, by omega⟩
    obtain ⟨b', xs, e, hx, hall⟩ := dp_tup hd
    cases e
    have lx : xs.length = rows.length := dpAll_len hall
    have eW : wrongD cs ls hs (m + 1) rows place ps oft = firstSome (rowF cs ls hs m place ps oft) 0 rows := rfl
    rw [eW] at hno
    have hno := firstSome_none hno
    generalize hF : (fun (i : Nat) (row : PyData) => (place ++ [(i : Int)]) :: flatF (fun j b => placesD m (rowsD b) (place ++ [(i : Int)] ++ [(j : Int)])) 0 (bodiesD row)) = F
    have eP : placesD (m + 1) rows place = flatF F 0 rows := by rw [← hF]; rfl
    rw [eP] at hsz q
    refine ⟨Nat.zero_le _, fun l nl => ⟨_, rfl, b, xs, rfl, (same_upd nl).sqt hx, for_it (HE.walk_enumT (xs := xs)) (fun i σ H2 => (∃ y3 y4 y5 y6 y7, σ = [some (.ref b), some (.ref pl), some (.ref l), y3, y4, y5, y6, y7]) ∧ Same H H2 ∧ ∃ vs acc, H2 l = some (.lst vs) ∧ PL K H2 vs acc ∧ acc ++ flatF F i (rows.drop i) = flatF F 0 rows) ?_ ?_ ?_ ?_⟩⟩
    · exact ⟨⟨_, _, _, _, _, rfl⟩, same_upd nl, [], [], upd_same, .nil, by rw [List.drop_zero]; rfl⟩
    · rintro i σ H2 _ ⟨_, s2, _⟩
      exact s2.sqt hx
    · rintro i x σ H2 H3 hi ⟨⟨y3, y4, y5, y6, y7, rfl⟩, s2, fs, acc, hl2, hpl2, ef⟩ ⟨Tt, x1, x2, rfl, nT, rfl, g1, g2⟩
      cases g1
      dsimp only at g2
      rw [List.getElem?_eq_getElem hi] at g2
      cases g2
      have hi2 : i < rows.length := by omega
      have sT := same_upd (o := .tup [.int (i : Nat), xs[i]]) nT
      refine ⟨Tt, _, rfl, stt upd_same, rfl, _, _, rfl, _, _, rfl, rfl, ?_⟩
      have hl3 := sT _ _ hl2
      have hpl3 := hpl2.same sT
      have s3 := s2.trans sT
      generalize upd H2 Tt (.tup [.int (i : Nat), xs[i]]) = H3 at s3 hl3 hpl3 ⊢
      rw [flatF_at _ hi2] at ef
      have hni := hno i hi2
      rw [Nat.zero_add] at hni
      obtain ⟨er, hlen, hno2⟩ := rowF_none hni
      have hrow := dpAll_at hall hi hi2
      have grow : Good rows[i] m := good.item (List.getElem_mem hi2)
      generalize rows[i] = row at ef hrow grow er hno2
      generalize xs[i] = xr at hrow ⊢
      obtain ⟨z, ks, ds, R⟩ := row_ok er
      obtain rfl := R.eq
      obtain ⟨ra, rxs, rfl, rx, rall⟩ := dp_tup hrow
      cases rall with
      | cons pz rall =>
      cases pz
      rename_i rxs
      have eb : bodiesD (.tuple (.str z :: ds)) = bodiesV ks ds := by
        show (match kindsOf z with | some ks => _ | none => _) = _
        rw [R.ks_]
      have eF : F i (.tuple (.str z :: ds)) = (place ++ [(i : Int)]) :: flatF (fun j b => placesD m (rowsD b) (place ++ [(i : Int)] ++ [(j : Int)])) 0 (bodiesV ks ds) := by
        rw [← hF]
        dsimp only
        rw [eb]
      rw [eF] at ef
      rw [eb] at hno2
      have hno2 := firstSome_none hno2
      generalize hg : (fun (j : Nat) (b : PyData) => placesD m (rowsD b) (place ++ [(i : Int)] ++ [(j : Int)])) = g at ef
      refine ⟨fun σ H4 => ∃ (hh : Addr), (∃ y6 y7, σ = [some (.ref b), some (.ref pl), some (.ref l), some (.int (i : Nat)), some (.ref ra), some (.ref hh), y6, y7]) ∧ Same H3 H4 ∧ SqT K H4 hh ((place ++ [(i : Int)]).map V.int), ?_, ?_⟩
      · refine ⟨_, rfl, _, rfl, by show 1 ≤ sizeLine; decide, fun p np => ?_⟩
        have s4 := same_upd (o := .tup [.int (i : Nat)]) np
        have hp : (upd H3 p (.tup [.int (i : Nat)])) p = some (.tup [.int (i : Nat)]) := upd_same
        generalize upd H3 p (.tup [.int (i : Nat)]) = H4 at s4 hp ⊢
        refine ⟨pl, p, _, _, rfl, rfl, (s3.trans s4).sqt hpl, stt hp, by rw [List.length_map]; exact Evl.sz_of (by show place.length + 1 ≤ _; omega), fun e => ?_, (fun _ e => nomatch e), fun _ _ p2 np2 => ?_⟩
        · have e0 : place = [] := by cases place <;> first | rfl | cases e
          subst e0
          exact ⟨p, ⟨_, _, rfl⟩, s4, stt hp⟩
        · have s5 := same_upd (o := .tup (place.map V.int ++ [.int (i : Nat)])) np2
          exact ⟨p2, ⟨_, _, rfl⟩, s4.trans s5, stt (by rw [upd_same, List.map_append]; rfl)⟩
      rintro σ H4 ⟨hh, ⟨y6, y7, rfl⟩, s34, hhh⟩
      have hl4 := s34 _ _ hl3
      have hpl4 := hpl3.same s34
      have s4 := s3.trans s34
      have lfs : fs.length = acc.length := paired_len hpl3
      have hn4 : Same H (upd H4 l (.lst (fs ++ [.ref hh]))) := s4.own nl
      refine ⟨_, rfl, .inl ⟨rfl, _, sl hl4⟩, _, rfl, l, fs, .ref hh, rfl, rfl, hl4, ?_, ?_⟩
      · rw [lfs]
        refine Nat.lt_of_lt_of_le ?_ hsz
        rw [← ef, List.length_append, List.length_append, List.length_cons]
        omega
      have hl5 : (upd H4 l (.lst (fs ++ [.ref hh]))) l = some (.lst (fs ++ [.ref hh])) := upd_same
      have hpl5 : PL K (upd H4 l (.lst (fs ++ [.ref hh]))) (fs ++ [.ref hh]) (acc ++ [place ++ [(i : Int)]]) := paired_app (hpl4.set hl4) (.cons ⟨hh, rfl, sqt_set hhh hl4⟩ .nil)
      have hhh5 : SqT K (upd H4 l (.lst (fs ++ [.ref hh]))) hh ((place ++ [(i : Int)]).map V.int) := sqt_set hhh hl4
      generalize upd H4 l (.lst (fs ++ [.ref hh])) = H5 at hn4 hl5 hpl5 hhh5 ⊢
      refine ⟨_, rfl, ra, z, ks, rxs, rfl, hn4.sqt rx, R.ks_, fun lp H6 nlp s6 hlp => ?_⟩
      have s06 := hn4.trans s6
      have hb6 := dpAll_bodies ks rall
      have lb : (bodiesV ks rxs).length = (bodiesV ks ds).length := dpAll_len hb6
      have nll : l ≠ lp := fun e => by subst e; rw [hl5] at nlp; cases nlp
      refine ⟨lp, bodiesV ks rxs, rfl, sl hlp, for_it (walk_enum (xs := bodiesV ks rxs)) (fun j σ H7 => (∃ y6 y7, σ = [some (.ref b), some (.ref pl), some (.ref l), some (.int (i : Nat)), some (.ref ra), some (.ref hh), y6, y7]) ∧ Same H H7 ∧ H7 lp = some (.lst (bodiesV ks rxs)) ∧ SqT K H7 hh ((place ++ [(i : Int)]).map V.int) ∧ ∃ vs acc2, H7 l = some (.lst vs) ∧ PL K H7 vs acc2 ∧ acc2 ++ flatF g j ((bodiesV ks ds).drop j) = acc ++ (place ++ [(i : Int)]) :: flatF g 0 (bodiesV ks ds)) ?_ ?_ ?_ ?_⟩
      · exact ⟨⟨_, _, rfl⟩, s06, hlp, s6.sqt hhh5, _, _, s6 _ _ hl5, hpl5.same s6, by rw [List.drop_zero, List.append_assoc]; rfl⟩
      · rintro j σ H7 _ ⟨_, _, h7, _⟩
        exact sl h7
      · rintro j x σ H7 H8 hj ⟨⟨y6, y7, rfl⟩, s7, hlp7, hhh7, fs7, acc7, hl7, hpl7, ef7⟩ ⟨T2, x1, x2, rfl, nT2, rfl, g1, g2⟩
        cases g1
        dsimp only at g2
        rw [List.getElem?_eq_getElem hj] at g2
        cases g2
        have hj2 : j < (bodiesV ks ds).length := by omega
        have sT2 := same_upd (o := .tup [.int (j : Nat), (bodiesV ks rxs)[j]]) nT2
        refine ⟨T2, _, rfl, stt upd_same, rfl, _, _, rfl, _, _, rfl, rfl, ?_⟩
        rw [flatF_at _ hj2] at ef7
        have hl8 := sT2 _ _ hl7
        have hlp8 := sT2 _ _ hlp7
        have hpl8 := hpl7.same sT2
        have hhh8 := sT2.sqt hhh7
        have s8 := s7.trans sT2
        generalize upd H7 T2 (.tup [.int (j : Nat), (bodiesV ks rxs)[j]]) = H8 at s8 hl8 hlp8 hpl8 hhh8 ⊢
        have hbm : (bodiesV ks ds)[j] ∈ bodiesV ks ds := List.getElem_mem hj2
        have ebt := bodies_parts (P := fun d => d = .tuple (rowsD d)) (fun q hq hk => part_body (by have := R.parts q hq; rw [hk] at this; exact this)) _ hbm
        have gb : Good (bodiesV ks ds)[j] m := by
          obtain ⟨m', hm⟩ : ∃ m', m = m' + 1 := by
            have := grow.dep
            simp only [PyData.depth] at this
            exact ⟨m - 1, by omega⟩
          subst hm
          exact (grow.item (List.mem_cons_of_mem _ (bodiesV_mem hbm))).mono (by omega)
        have hb8 := dpAll_at hb6 hj hj2
        have hnj := hno2 j hj2
        rw [Nat.zero_add] at hnj
        have egj : g j (bodiesV ks ds)[j] = placesD m (rowsD (bodiesV ks ds)[j]) (place ++ [(i : Int)] ++ [(j : Int)]) := by rw [← hg]
        rw [egj] at ef7
        generalize (bodiesV ks ds)[j] = b0 at hb8 ef7 ebt gb hnj
        generalize (bodiesV ks rxs)[j] = vb at hb8 ⊢
        generalize rowsD b0 = rb at ebt hnj ef7
        subst ebt
        obtain ⟨bb, bxs, rfl, _, _⟩ := dp_tup (id hb8)
        refine ⟨_, rfl, .inl ⟨rfl, _, sl hl8⟩, _, rfl, _, rfl, _, rfl, by show 1 ≤ sizeLine; decide, fun p np => ?_⟩
        have s9 := same_upd (o := .tup [.int (j : Nat)]) np
        have hp9 : (upd H8 p (.tup [.int (j : Nat)])) p = some (.tup [.int (j : Nat)]) := upd_same
        generalize upd H8 p (.tup [.int (j : Nat)]) = H9 at s9 hp9 ⊢
        refine ⟨hh, p, _, _, rfl, rfl, s9.sqt hhh8, stt hp9, by rw [List.length_map, List.length_append, List.length_singleton]; exact Evl.sz_of (by show place.length + 1 + 1 ≤ _; omega), (fun e => by simp at e), (fun _ e => nomatch e), fun _ _ p2 np2 => ?_⟩
        have s10 := same_upd (o := .tup ((place ++ [(i : Int)]).map V.int ++ [.int (j : Nat)])) np2
        have hp10 : SqT K (upd H9 p2 (.tup ((place ++ [(i : Int)]).map V.int ++ [.int (j : Nat)]))) p2 ((place ++ [(i : Int)] ++ [(j : Int)]).map V.int) := stt (by rw [upd_same, List.map_append (l₁ := place ++ [(i : Int)])]; rfl)
        generalize upd H9 p2 (.tup ((place ++ [(i : Int)]).map V.int ++ [.int (j : Nat)])) = H10 at s10 hp10 ⊢
        have s810 := s9.trans s10
        have sA := s8.trans s810
        have hlen7 : acc7.length + (placesD m rb (place ++ [(i : Int)] ++ [(j : Int)])).length ≤ sizeLine := by
          refine Nat.le_trans ?_ hsz
          rw [← ef]
          have := congrArg List.length ef7
          simp only [List.length_append, List.length_cons] at this ⊢
          omega
        refine ⟨bb, p2, rb, _, cs, ls, hs, _, _, rfl, sA.dp hb8, gb, by omega, hp10, by rw [List.length_append, List.length_append, List.length_singleton, List.length_singleton]; omega, hnj, by omega, fun lr H11 vs s11 hlr nlr hplr => ?_⟩
        have hl11 := s11 _ _ (s810 _ _ hl8)
        have nlr2 : lr ≠ l := fun e => by subst e; rw [s810 _ _ hl8] at nlr; cases nlr
        have s811 := s810.trans s11
        refine ⟨l, lr, fs7, vs, rfl, rfl, hl11, hlr, ?_, ?_⟩
        · rw [paired_len hpl8, paired_len hplr]
          exact hlen7
        refine ⟨⟨_, _, rfl⟩, (s8.trans s811).own nl, ?_, sqt_set (s811.sqt hhh8) hl11, _, acc7 ++ placesD m rb (place ++ [(i : Int)] ++ [(j : Int)]), upd_same, paired_app ((hpl8.same s811).set hl11) (hplr.set hl11), ?_⟩
        · rw [upd_ne (fun e => nll e.symm)]
          exact s811 _ _ hlp8
        · rw [List.append_assoc]
          exact ef7
      · rintro σ H7 ⟨⟨y6, y7, rfl⟩, s7, hlp7, hhh7, fs7, acc7, hl7, hpl7, ef7⟩
        rw [List.drop_of_length_le (by omega)] at ef7
        refine ⟨⟨_, _, _, _, _, rfl⟩, s7, fs7, acc7, hl7, hpl7, ?_⟩
        rw [show acc7 = acc7 ++ flatF g (bodiesV ks rxs).length [] from (List.append_nil _).symm, ef7, ← ef, List.append_assoc]
    · rintro σ H2 ⟨⟨y3, y4, y5, y6, y7, rfl⟩, s2, fs, acc, hl2, hpl2, ef⟩
      rw [List.drop_of_length_le (by omega)] at ef
      refine ⟨_, rfl, q l H2 fs s2 hl2 nl ?_⟩
      rw [← ef]
      exact (List.append_nil acc).symm ▸ hpl2
end
end TP
namespace TP
open PySem PySem.Spec PyProof.Rows L2 HX HB HG HU HH HD HS
section
variable {P : Program} {w : World} {K : PySem.W.Frag} {mg : Str → Option Value} {base : Heap}
def firstD (cs ls hs : List Str) (n : Nat) : PyData → Option (List Int)
  | .tuple rows => wrongD cs ls hs n rows [] [] 0
  | _ => some []
theorem merge3 (x y z : V) : mergeK [] [((Sum.inr "cell" : Key), x), (Sum.inr "lock", y), (Sum.inr "channel", z)] = ([(Sum.inr "cell", x), (Sum.inr "lock", y), (Sum.inr "channel", z)] : List (Key × V)) := rfl
def spFirst (K : PySem.W.Frag) (N : Nat) : Sp := fun vs H Q _ => ∃ (v : V) (d : PyData) (c l h : Addr) (cs ls hs : List Str), vs = [v, .ref c, .ref l, .ref h] ∧
  Dp K H v d ∧ Good d N ∧ SqT K H c (cs.map V.str) ∧ SqT K H l (ls.map V.str) ∧ SqT K H h (hs.map V.str) ∧
  ∀ v H', Same H H' → Res K H' (firstD cs ls hs N d) v → Q v H'
theorem ok_first (T : Tp K w mg) (N : Nat) (hN : N ≤ 64) : FnOk P w K mg base CX0 (N + (N + 4) + 2) T.f_first T.fd_first ["body", "cells", "locks", "channels"] (spFirst K N) := by
  refine T.D_first.ok sc_first (fun vs H Q E h => ?_) (fun cdv A outer s H vs Q E hr h => ?_)
  · obtain ⟨v, d, c, l, h, cs, ls, hs, rfl, _⟩ := h
    rfl
  · obtain ⟨v, d, c, l, h, cs, ls, hs, rfl, hd, good, hc, hl, hh, q⟩ := h
    refine ⟨_, (pss_cons (ps_if (pt_not (pt_val (pe_callB call_isi (by rfl) T.isinstance (by decide +kernel) (pa_cons (pv 0) (pa_cons (pe_bltn (v := .ty "tuple") (by rfl) T.tuple (by decide +kernel) rfl) pa_nil)))))
  (pss_one (ps_ret (pe_tup pa_nil)))
  pss_nil)
  (pss_one (ps_ret (pcall T.D_wrong (ok_wrong T N hN N) (hr.mono (by omega)) (by rfl) (pa_cons (pv 0) (pa_cons (pe_tup pa_nil) (pa_cons (pe_disp (pps_cons pe_str (pv 1) (pps_cons pe_str (pv 2) (pps_cons pe_str (pv 3) pps_nil))) (by rfl) (by rfl) (fun z => by cases z) (by decide)) (pa_cons (pe_tup pa_nil) (pa_cons pe_int pa_nil))))))))), ?_⟩
    obtain ⟨ty, kin⟩ := dp_ty hd
    refine ⟨_, rfl, _, _, _, _, _, rfl, .ty "tuple", ty, kit_dat (by decide) kin, _, rfl, ?_⟩
    by_cases ht : kindD d = "tuple"
    · refine ite0 (by rw [decide_eq_true ht]; rfl) ?_
      obtain ⟨ds, rfl⟩ : ∃ ds, d = .tuple ds := by cases d <;> simp [kindD] at ht ⊢
      obtain ⟨a, xs, rfl, hx, hall⟩ := dp_tup hd
      refine ⟨_, rfl, Nat.zero_le _, fun p np => ?_⟩
      have s1 := same_upd (o := .tup []) np
      have hp : (upd H p (.tup [])) p = some (.tup []) := upd_same
      generalize upd H p (.tup []) = H1 at s1 hp ⊢
      intro kd nkd
      have s2 := s1.trans (same_upd (o := .dK []) nkd)
      have hp2 := (same_upd (o := .dK []) nkd) _ _ hp
      have hkd : (upd H1 kd (.dK [])) kd = some (.dK []) := upd_same
      generalize hH2 : upd H1 kd (.dK []) = H2 at s2 hp2 hkd ⊢
      have nkH : H kd = none := s1.free nkd
      refine ⟨_, rfl, _, rfl, _, rfl, hkd, [(Sum.inr "cell", .ref c), (Sum.inr "lock", .ref l), (Sum.inr "channel", .ref h)], rfl, by show 3 ≤ 15; decide, ?_⟩
      have s3 : Same H (upd H2 kd (.dK [(Sum.inr "cell", .ref c), (Sum.inr "lock", .ref l), (Sum.inr "channel", .ref h)])) := s2.own nkH
      have hk3 : (upd H2 kd (.dK [(Sum.inr "cell", .ref c), (Sum.inr "lock", .ref l), (Sum.inr "channel", .ref h)])) kd = some (.dK [(Sum.inr "cell", .ref c), (Sum.inr "lock", .ref l), (Sum.inr "channel", .ref h)]) := upd_same
      have hp3 : (upd H2 kd (.dK [(Sum.inr "cell", .ref c), (Sum.inr "lock", .ref l), (Sum.inr "channel", .ref h)])) p = some (.tup []) := by rw [upd_ne (fun e => by subst e; rw [hkd] at hp2; cases hp2)]; exact hp2
      rw [merge3]
      generalize upd H2 kd (.dK [(Sum.inr "cell", .ref c), (Sum.inr "lock", .ref l), (Sum.inr "channel", .ref h)]) = H3 at s3 hk3 hp3 ⊢
      refine ⟨Nat.zero_le _, fun p2 np2 => ?_⟩
      have s34 := same_upd (o := .tup []) np2
      have hp24 : (upd H3 p2 (.tup [])) p2 = some (.tup []) := upd_same
      generalize upd H3 p2 (.tup []) = H4 at s34 hp24 ⊢
      have s4 := s3.trans s34
      refine ⟨a, p, kd, p2, ds, [], cs, ls, hs, [], 0, rfl, s4.dp hd, good, Nat.le_refl _, ⟨c, l, h, s34 _ _ hk3, s4.sqt hc, s4.sqt hl, s4.sqt hh⟩, ⟨⟨[], stt hp24, .nil⟩, Nat.zero_le _⟩, s34.sqt (stt hp3), Nat.zero_le _, Nat.zero_le _, by decide, by decide, fun v H5 s5 hr => q v H5 (s4.trans s5) hr⟩
    · refine ite1 (by rw [decide_eq_false ht]; rfl) ?_
      refine ⟨Nat.zero_le _, fun p np => q _ _ (same_upd np) ?_⟩
      have e : firstD cs ls hs N d = some [] := by cases d <;> first | rfl | exact absurd rfl ht
      rw [e]
      exact ⟨p, rfl, stt upd_same⟩
end
end TP
namespace TP
open PySem PySem.Spec PyProof.Rows L2 HX HB HG HU HH HD HS
section
variable {P : Program} {w : World} {K : PySem.W.Frag} {mg : Str → Option Value} {base : Heap}
def sizesD (l u : Int) (kvs : List (Str × Int)) : Bool := decide (kvs.length ≤ 4) && kvs.all fun q => isNameL q.1 && decide (l ≤ q.2 ∧ q.2 ≤ u)
def spSizes (K : PySem.W.Frag) : Sp := fun vs H Q _ => ∃ (a : Addr) (kvs : List (Str × Int)) (l u : Int), vs = [.ref a, .int l, .int u] ∧
  H a = some (.dK (kvs.map fun q => (Sum.inr q.1, V.int q.2))) ∧ (kvs.map (·.1)).Nodup ∧ kvs.length ≤ 100 ∧ (∀ q ∈ kvs, okD (.str q.1) = true ∧ okD (.int q.2) = true) ∧
  ∀ H', Same H H' → Q (.bl (sizesD l u kvs)) H'
theorem ok_sizes (T : Tp K w mg) : FnOk P w K mg base CX0 3 T.f_sizes T.fd_sizes ["thing", "least", "most"] (spSizes K) := by
  refine T.D_sizes.F.ok sc_sizes (fun vs H Q E h => ?_) (fun cdv A outer s H vs Q E hr h => ?_)
  · obtain ⟨a, kvs, l, u, rfl, _⟩ := h
    rfl
  · obtain ⟨a, kvs, l, u, rfl, ha, hnd, hz, hok, q⟩ := h
    refine ⟨_, (pss_cons (ps_if (PW.pt (pw_or (pt_not (pt_val (pe_callB call_isi (by rfl) T.isinstance (by decide +kernel) (pa_cons (pv 0) (pa_cons (pe_bltn (v := .ty "dict") (by rfl) T.dict (by decide +kernel) rfl) pa_nil))))) (pw_or1 (pt_cmpR op_gt (pe_callB call_lenD (by rfl) T.len PySem.boot_len (pa_cons (pv 0) pa_nil)) (pe_gi (by rfl) T.c_MOST_NAMES) (nomark _)))))
  (pss_one (ps_ret pe_bl))
  pss_nil)
  (pss_one (ps_ret (pe_callB (cr_all rfl) (by rfl) T.all (by decide +kernel) (pa_cons (pe_lock (pe_lc (own := [("name", 3), ("size", 4)]) (g := gTup K 2 (gCons (gName 3) (gCons (gName 4) gNil))) (by rfl) sc_sizes.nd (pi_items (pv 0)) (blkOk_by (own := [("name", 3), ("size", 4)]) (N := ["thing", "least", "most", "name", "size"]) (sc := defScope s_sizes) (by decide +kernel)) (fun _ _ _ _ _ => (pg_tup rfl (pgs_cons (pg_name (i := 3) sc_sizes.nd rfl (.inl rfl)) (pgs_cons (pg_name (i := 4) sc_sizes.nd rfl (.inl rfl)) pgs_nil)))) (fun _ _ _ _ _ => pts_nil) (fun _ _ _ _ _ => (pe_and (pcall T.D_isname (ok_isname T) (hr.mono (by decide)) (by rfl) (pa_cons (pv 3) pa_nil)) (pe_and (pcall T.D_isnum (ok_isnum T) (hr.mono (by decide)) (by rfl) (pa_cons (pv 4) pa_nil)) (pe_one (pe_chain op_le op_le (pv 1) (pv 4) (pv 2)))))))) pa_nil))))), ?_⟩
    have tyD : TyX K H (.ref a) (.type "dict") := .base (.dK ha)
    refine ⟨_, rfl, _, _, _, _, true, rfl, .ty "dict", tyD, kit_ty (by decide +kernel), _, rfl, ?_⟩
    refine ite0 rfl ⟨_, rfl, a, _, rfl, ha, _, _, rfl, rfl, _, rfl, ?_⟩
    rw [List.length_map]
    have eD : decide ((4 : Int) < (kvs.length : Nat)) = !decide (kvs.length ≤ 4) := by
      by_cases h : kvs.length ≤ 4
      · rw [decide_eq_true h, decide_eq_false (by omega)]; rfl
      · rw [decide_eq_false h, decide_eq_true (by omega)]; rfl
    refine ite2 (fun h4 => ?_) (fun h4 => ?_)
    · have h4 := of_decide_eq_true h4
      have e : sizesD l u kvs = false := by
        unfold sizesD
        rw [decide_eq_false (by omega : ¬ kvs.length ≤ 4)]
        rfl
      rw [e] at q
      exact q H (Same.refl _)
    · have h4 : kvs.length ≤ 4 := by
        have : ¬ (4 : Int) < (kvs.length : Nat) := fun z => h4 (decide_eq_true z)
        omega
      have e : sizesD l u kvs = kvs.all fun q => isNameL q.1 && decide (l ≤ q.2 ∧ q.2 ≤ u) := by
        unfold sizesD
        rw [decide_eq_true h4]
        rfl
      rw [e] at q
      refine ⟨a, _, ha, True.intro, fun od => ?_⟩
      refine ⟨_, rfl, a, od, _, rfl, upd_same, fun L nL => ?_⟩
      have LD : L ≠ a := fun e => by rw [e, upd_same] at nL; cases nL
      generalize eF : upd H a (.frz od (.dK (kvs.map fun q => (Sum.inr q.1, V.int q.2)))) = HF at nL ⊢
      have hDF : HF a = some (.frz od (.dK (kvs.map fun q => (Sum.inr q.1, V.int q.2)))) := by rw [← eF, upd_same]
      refine lc_it (walk_items (kvs := kvs.map fun q => (Sum.inr q.1, V.int q.2))) (fun i H6 => Same HF H6 ∧ H6 L = some (.lst (((kvs.take i).map fun q => isNameL q.1 && decide (l ≤ q.2 ∧ q.2 ≤ u)).map V.bl))) ⟨same_upd nL, upd_same⟩ (fun i H6 _ g => g.1 _ _ hDF) ?_ ?_
      · rintro i x H3 H6 hi ⟨sm, hL⟩ ⟨Tt, x1, x2, rfl, nT, rfl, g1, g2⟩
        have hi1 : i < kvs.length := by rw [List.length_map] at hi; exact hi
        dsimp only at g1 g2
        rw [List.getElem?_map, List.getElem?_eq_getElem hi1] at g1 g2
        cases g1
        cases g2
        have smT := same_upd (o := .tup [.str kvs[i].1, .int kvs[i].2]) nT
        have fin : ∀ H' b, Same H3 H' → b = (isNameL kvs[i].1 && decide (l ≤ kvs[i].2 ∧ kvs[i].2 ≤ u)) → ∃ acc, H' L = some (.lst acc) ∧ acc.length < sizeLine ∧ Same HF (upd H' L (.lst (acc ++ [V.bl b]))) ∧ (upd H' L (.lst (acc ++ [V.bl b]))) L = some (.lst (((kvs.take (i + 1)).map fun q => isNameL q.1 && decide (l ≤ q.2 ∧ q.2 ≤ u)).map V.bl)) := fun H' b s' eb => by
          refine ⟨_, s' _ _ hL, by rw [List.length_map, List.length_map]; exact small1000 (Nat.le_trans (List.length_take_le _ _) (by omega)), (sm.trans s').own nL, ?_⟩
          rw [upd_same, List.take_add_one, List.getElem?_eq_getElem hi1, List.map_append, List.map_append, eb]
          rfl
        refine ⟨Tt, _, rfl, stt upd_same, rfl, _, _, rfl, _, _, rfl, rfl, rfl, ?_⟩
        refine ⟨_, rfl, _, .str kvs[i].1, rfl, .str _, (hok _ (List.getElem_mem hi1)).1, fun H7 s7 => ⟨_, rfl, ?_⟩⟩
        show if isNameL kvs[i].1 = true then _ else _
        cases en : isNameL kvs[i].1 with
        | false => exact fin _ _ (smT.trans s7) (by rw [en]; rfl)
        | true =>
          refine ⟨_, rfl, _, .int kvs[i].2, rfl, .int _, (hok _ (List.getElem_mem hi1)).2, fun H8 s8 => ⟨_, rfl, ?_⟩⟩
          refine ⟨_, rfl, _, rfl, _, _, rfl, rfl, _, rfl, ?_⟩
          have s38 := (smT.trans s7).trans s8
          refine ite2 (fun hl => ?_) (fun hl => ?_)
          · have hl := of_decide_eq_true hl
            refine ⟨_, rfl, _, _, rfl, rfl, fin _ _ s38 ?_⟩
            rw [en, Bool.true_and]
            exact decide_eq_decide.mpr ⟨fun h => ⟨hl, h⟩, fun h => h.2⟩
          · refine fin _ _ s38 ?_
            rw [en, Bool.true_and, decide_eq_false (fun h => hl (decide_eq_true h.1))]
      · rintro H6 ⟨sm, hL⟩
        rw [List.length_map, List.take_length] at hL
        refine ⟨sm _ _ hDF, ?_⟩
        have sF : Same H (upd H6 a (.dK (kvs.map fun q => (Sum.inr q.1, V.int q.2)))) := fun b o e => by
          by_cases eb : b = a
          · subst eb; rw [upd_same]; rw [ha] at e; exact e
          · rw [upd_ne eb]
            refine sm b o ?_
            rw [← eF, upd_ne eb]
            exact e
        refine ⟨L, _, rfl, sl (by rw [upd_ne LD]; exact hL), ?_⟩
        rw [List.all_map]
        exact q _ sF
end
end TP
namespace TP
open PySem PySem.Spec PyProof.Rows L2 HX HB HG HU HH HD HS HV
section
variable {P : Program} {w : World} {K : PySem.W.Frag} {mg : Str → Option Value} {base : Heap}
def locksD (zs : List Str) : Bool := decide (zs.length ≤ 4) && (zs.all isNameL && decide zs.Nodup)
def spLocks (K : PySem.W.Frag) : Sp := fun vs H Q _ => ∃ (a : Addr) (zs : List Str), vs = [.ref a] ∧
  H a = some (.lst (zs.map V.str)) ∧ zs.length ≤ 100 ∧ (∀ z ∈ zs, okD (.str z) = true) ∧
  ∀ H', Same H H' → Q (.bl (locksD zs)) H'
theorem ok_locks (T : Tp K w mg) : FnOk P w K mg base CX0 3 T.f_locks T.fd_locks ["thing"] (spLocks K) := by
  refine T.D_locks.F.ok sc_locks (fun vs H Q E h => ?_) (fun cdv A outer s H vs Q E hr h => ?_)
  · obtain ⟨a, zs, rfl, _⟩ := h
    rfl
  · obtain ⟨a, zs, rfl, ha, hz, hok, q⟩ := h
    refine ⟨_, (pss_cons (ps_if (PW.pt (pw_or (pt_not (pt_val (pe_callB call_isi (by rfl) T.isinstance (by decide +kernel) (pa_cons (pv 0) (pa_cons (pe_bltn (v := .ty "list") (by rfl) T.list (by decide +kernel) rfl) pa_nil))))) (pw_or1 (pt_cmpR op_gt (pe_callB call_len_seq (by rfl) T.len PySem.boot_len (pa_cons (pv 0) pa_nil)) (pe_gi (by rfl) T.c_MOST_NAMES) (nomark _)))))
  (pss_one (ps_ret pe_bl))
  pss_nil)
  (pss_one (ps_ret (pe_and (pe_callB (cr_all rfl) (by rfl) T.all (by decide +kernel) (pa_cons (pe_lc (own := [("name", 1)]) (g := gName 1) (by rfl) sc_locks.nd (pi_list (pv 0)) (blkOk_by (own := [("name", 1)]) (N := ["thing", "name"]) (sc := defScope s_locks) (by decide +kernel)) (fun _ _ _ _ _ => (pg_name (i := 1) sc_locks.nd rfl (.inl rfl))) (fun _ _ _ _ _ => pts_nil) (fun _ _ _ _ _ => (pcall T.D_isname (ok_isname T) (hr.mono (by decide)) (by rfl) (pa_cons (pv 1) pa_nil)))) pa_nil)) (pe_one (pe_cmpR op_eq (HV.pe_lenSetS (by rfl) T.len (by rfl) T.set (pv 0)) (pe_callB call_len_seq (by rfl) T.len PySem.boot_len (pa_cons (pv 0) pa_nil)) (nomark _))))))), ?_⟩
    have tyD : TyX K H (.ref a) (.type "list") := .base (.lst ha)
    refine ⟨_, rfl, _, _, _, _, true, rfl, .ty "list", tyD, kit_ty (by decide +kernel), _, rfl, ?_⟩
    refine ite0 rfl ⟨_, rfl, a, _, rfl, .inl (sl ha), _, _, rfl, rfl, _, rfl, ?_⟩
    rw [List.length_map]
    refine ite2 (fun h4 => ?_) (fun h4 => ?_)
    · have h4 := of_decide_eq_true h4
      have e : locksD zs = false := by
        unfold locksD
        rw [decide_eq_false (by omega : ¬ zs.length ≤ 4)]
        rfl
      rw [e] at q
      exact q H (Same.refl _)
    · have h4 : zs.length ≤ 4 := by
        have : ¬ (4 : Int) < (zs.length : Nat) := fun z => h4 (decide_eq_true z)
        omega
      have e : locksD zs = (zs.all isNameL && decide zs.Nodup) := by
        unfold locksD
        rw [decide_eq_true h4]
        rfl
      rw [e] at q
      refine ⟨_, rfl, a, rfl, ⟨_, sl ha⟩, fun L nL => ?_⟩
      refine lc_it (walk_list (xs := zs.map V.str)) (fun i H6 => Same H H6 ∧ H6 L = some (.lst (((zs.take i).map isNameL).map V.bl))) ⟨same_upd nL, upd_same⟩ (fun i H6 _ g => sl (g.1 _ _ ha)) ?_ ?_
      · rintro i x H3 H6 hi ⟨sm, hL⟩ ⟨rfl, g1⟩
        have hi1 : i < zs.length := by rw [List.length_map] at hi; exact hi
        rw [List.getElem?_map, List.getElem?_eq_getElem hi1] at g1
        cases g1
        refine ⟨rfl, _, rfl, _, .str zs[i], rfl, .str _, hok _ (List.getElem_mem hi1), fun H7 s7 => ?_⟩
        refine ⟨_, s7 _ _ hL, by rw [List.length_map, List.length_map]; exact small1000 (Nat.le_trans (List.length_take_le _ _) (by omega)), (sm.trans s7).own nL, ?_⟩
        rw [upd_same, List.take_add_one, List.getElem?_eq_getElem hi1, List.map_append, List.map_append]
        rfl
      · rintro H6 ⟨sm, hL⟩
        rw [List.length_map, List.take_length] at hL
        refine ⟨L, _, rfl, sl hL, ?_⟩
        rw [List.all_map]
        refine ⟨_, rfl, ?_⟩
        have ec : zs.all ((fun v => (match v with | V.bl b => b | _ => false)) ∘ V.bl ∘ isNameL) = zs.all isNameL := rfl
        refine ite2 (fun h => ?_) (fun h => ?_)
        · refine ⟨_, rfl, a, zs, rfl, sl (sm _ _ ha), by omega, _, rfl, a, _, rfl, .inl (sl (sm _ _ ha)), ?_⟩
          refine ⟨rfl, ?_⟩
          have h : zs.all isNameL = true := h
          have eu : decide (V.int (uq zs zs.length : Nat) = V.int ((zs.map V.str).length : Nat)) = decide zs.Nodup := by
            have := uq_all (xs := zs) zs.length (Nat.le_refl _)
            rw [List.take_length] at this
            rw [List.length_map]
            exact decide_eq_decide.mpr ⟨fun e => this.mp (by have := V.int.inj e; omega), fun e => by rw [this.mpr e]⟩
          rw [eu]
          rw [h, Bool.true_and] at q
          exact q H6 sm
        · have h : zs.all isNameL = false := by
            cases e : zs.all isNameL with
            | true => exact absurd e h
            | false => rfl
          rw [h] at q
          exact q H6 sm
end
end TP
namespace TP
open PySem PySem.Spec PyProof.Rows L2 HX HB HG HU HH HD HS HV HQ
section
variable {P : Program} {w : World} {K : PySem.W.Frag} {mg : Str → Option Value} {base : Heap}
theorem ok_np (T : Tp K w mg) : FnOk P w K mg base CX0 1 T.f_np T.fd_np ["self", "place"] (spEx T.C_NoProgram "place") := by
  refine T.D_np.ok sc_np (fun vs H Q E h => ?_) (fun cdv A outer s H vs Q E hr h => ?_)
  · obtain ⟨a, y, rfl, _⟩ := h
    rfl
  · obtain ⟨a, y, rfl, ha, q⟩ := h
    refine ⟨_, (pss_cons (ps_expr (HY.pe_baseinit T.bs_YardError (by rfl) T.gC_YardError (pa_cons (pv 0) (pa_cons pe_str pa_nil))))
  (pss_one (ps_ost (pv 0) (pv 1)))), ?_⟩
    exact ⟨_, rfl, a, T.C_NoProgram, [.str "no program"], rfl, by decide, T.x_NoProgram, ha, _, rfl, _, rfl, a, T.C_NoProgram, rfl, T.x_NoProgram, T.na_NoProgram_place, .inl ⟨ha, q⟩⟩
theorem kb_first (T : Tp K w mg) : KBn K T.fd_first ["body", "cells", "locks", "channels"] 1 ["cells", "locks", "channels"] (fun us ws => us ++ ws) (fun vs zs => vs ++ zs) := by
  obtain ⟨mv, h⟩ := T.D_first.kbinds0 (ps := ["body", "cells", "locks", "channels"]) 1 ["cells", "locks", "channels"] [] (fun us _ ws => us ++ ws) (List.cons_ne_nil _ _) (fun q h => by cases h) (fun a _ c => a.append c)
    (fun D doc pm an cdv ct us mv ws h1 h2 h3 => match us, ws, mv, h1, h2, h3 with | [_], [_, _, _], [], _, _, _ => rfl)
  exact h
/-! ### a program -/
def dI (kvs : List (Str × Int)) : List (Key × V) := kvs.map fun q => (Sum.inr q.1, V.int q.2)
def ArgD (H : Hp) (v : V) (kvs : List (Str × Int)) : Prop := (v = .non ∧ kvs = []) ∨ ∃ a, v = .ref a ∧ H a = some (.dK (dI kvs))
def ArgL (H : Hp) (v : V) (zs : List Str) : Prop := (v = .non ∧ zs = []) ∨ ∃ a, v = .ref a ∧ H a = some (.lst (zs.map V.str))
structure OkD (kvs : List (Str × Int)) : Prop where
  nd : (kvs.map (·.1)).Nodup
  few : kvs.length ≤ 100
  ok : ∀ q ∈ kvs, okD (.str q.1) = true ∧ okD (.int q.2) = true
structure PObj (K : PySem.W.Frag) (H0 H : Hp) (p C : Addr) (b : V) (cs : List (Str × Int)) (ls : List Str) (ws : List (Str × Int)) (spots : List (List Int)) : Prop where
  ex : ∃ (dx s f l w : Addr) (vs : List V), H p = some (.ins C dx [("spots", .ref s), ("tree", b), ("first", .ref f), ("bolts", .ref l), ("widths", .ref w)]) ∧ H s = some (.lst vs) ∧ PL K H vs spots ∧ H f = some (.dK (dI cs)) ∧ H l = some (.lst (ls.map V.str)) ∧ H w = some (.dK (dI ws)) ∧ s ≠ l ∧ f ≠ w ∧ H0 s = none ∧ H0 f = none ∧ H0 l = none ∧ H0 w = none
def progD (N : Nat) (cs : List (Str × Int)) (ls : List Str) (ws : List (Str × Int)) (d : PyData) : Option (List Int) :=
  if sizesD (-99) 99 cs && (locksD ls && sizesD 1 4 ws) then
    match firstD (cs.map (·.1)) ls (ws.map (·.1)) N d with
    | some pl => some pl
    | none => if (placesD N (rowsD d) []).length ≤ 60 then none else some []
  else some []
/-- all but this instance stand -/
def V1 (p : Addr) (H H' : Hp) : Prop := ∀ b o, H b = some o → b ≠ p → H' b = some o
theorem V1.of {p : Addr} {H H' : Hp} (s : Same H H') : V1 p H H' := fun b o h _ => s b o h
theorem V1.trans {p : Addr} {H H' H'' : Hp} (a : V1 p H H') (s : Same H' H'') : V1 p H H'' := fun b o h e => s b o (a b o h e)
theorem V1.set {p : Addr} {H H' : Hp} (a : V1 p H H') {o : HO} : V1 p H (upd H' p o) := fun b x h e => by rw [upd_ne e]; exact a b x h e
theorem V1.free {p : Addr} {H H' : Hp} (v : V1 p H H') {b : Addr} (n : H' b = none) {o : HO} (hp : H' p = some o) : H b = none := by
  cases e : H b with
  | none => rfl
  | some x =>
    by_cases hb : b = p
    · subst hb; rw [hp] at n; cases n
    · rw [v b x e hb] at n; cases n
theorem sqt_kept {K : PySem.W.Frag} {H H' : Hp} (k : ∀ a o, H a = some o → (∀ C dx fs, o ≠ .ins C dx fs) → H' a = some o) {a : Addr} {xs : List V} (h : SqT K H a xs) : SqT K H' a xs := by
  rcases h with (h | ⟨o, h⟩) | h
  · exact .inl (.inl (k _ _ h (by intro _ _ _ z; cases z)))
  · exact .inl (.inr ⟨o, k _ _ h (by intro _ _ _ z; cases z)⟩)
  · exact .inr h
def spProg (K : PySem.W.Frag) (N : Nat) (C CE : Addr) : Sp := fun vs H Q E => ∃ (p dx : Addr) (b : V) (d : PyData) (vc vl vw : V) (cs : List (Str × Int)) (ls : List Str) (ws : List (Str × Int)), vs = [.ref p, b, vc, vl, vw] ∧
  H p = some (.ins C dx []) ∧ Dp K H b d ∧ Good d N ∧ ArgD H vc cs ∧ OkD cs ∧ ArgL H vl ls ∧ ls.length ≤ 100 ∧ (∀ z ∈ ls, okD (.str z) = true) ∧ ArgD H vw ws ∧ OkD ws ∧ (placesD N (rowsD d) []).length ≤ sizeLine ∧
  ∀ H', V1 p H H' → match progD N cs ls ws d with
    | some pl => ∀ t dd : Addr, SqT K H' t (pl.map V.int) → H' dd = some (.xd [("place", .ref t)]) → H dd = none → E (.ref CE) (some dd) H'
    | none => PObj K H H' p C b cs ls ws (placesD N (rowsD d) []) → Q .non H'
theorem ok_prog (T : Tp K w mg) (N : Nat) (hN : N ≤ 64) : FnOk P w K mg base (L2.CX P w) (N + (N + 4) + 2 + 1) T.f_prog T.fd_prog ["self", "body", "cells", "locks", "channels"] (spProg K N T.C_Program T.C_NoProgram) := by
  refine T.D_prog.ok sc_prog (fun vs H Q E h => ?_) (fun cdv A outer s H vs Q E hr h => ?_)
  · obtain ⟨p, dx, b, d, vc, vl, vw, cs, ls, ws, rfl, _⟩ := h
    rfl
  · obtain ⟨p, dx, b, d, vc, vl, vw, cs, ls, ws, rfl, hp, hd, good, hc, okc, hl, fewl, okl, hw, okw, hsz, q⟩ := h
    refine ⟨_, (Evl.pss_cut (ps_set (i := 5) sc_prog.nd rfl (.inl rfl) (pe_ifExp (pt_cmpR op_isN (pv 2) pe_non (nomark _)) pe_dnewK (pv 2)))
  (Evl.pss_cut (ps_set (i := 6) sc_prog.nd rfl (.inl rfl) (pe_ifExp (pt_cmpR op_isN (pv 3) pe_non (nomark _)) (pe_lst pa_nil) (pv 3)))
  (Evl.pss_cut (ps_set (i := 7) sc_prog.nd rfl (.inl rfl) (pe_ifExp (pt_cmpR op_isN (pv 4) pe_non (nomark _)) pe_dnewK (pv 4)))
  (pss_cons (ps_if (PW.pt (pw_or (pt_not (pt_val (pcall T.D_sizes (ok_sizes T) (hr.mono (by omega)) (by rfl) (pa_cons (pv 5) (pa_cons (pe_un un_neg pe_int) (pa_cons pe_int pa_nil)))))) (pw_or (pt_not (pt_val (pcall T.D_locks (ok_locks T) (hr.mono (by omega)) (by rfl) (pa_cons (pv 6) pa_nil)))) (pw_or1 (pt_not (pt_val (pcall T.D_sizes (ok_sizes T) (hr.mono (by omega)) (by rfl) (pa_cons (pv 7) (pa_cons pe_int (pa_cons pe_int pa_nil))))))))))
  (pss_one (ps_raise rfl (takes_of rfl rfl rfl rfl) (pmk_oex T.x_NoProgram T.i_NoProgram T.ti_NoProgram (ok_np T) (hr.mono (by omega)) T.b_np .nil pass0 (by rfl) T.gC_NoProgram (pa_cons (pe_tup pa_nil) pa_nil))))
  pss_nil)
  (pss_cons (ps_set (i := 8) sc_prog.nd rfl (.inl rfl) (pe_callN (ok_first T N hN) (hr.mono (by omega)) (by rfl) T.g_first T.D_first.kp (kb_first T) pass0 (pa_cons (pv 1) pa_nil) (pk_cons (pe_callTy call_tuple_of (by rfl) T.tuple (by decide +kernel) (pa_cons (pe_callTy (call_listD rfl) (by rfl) T.list (by decide +kernel) (pa_cons (pv 5) pa_nil)) pa_nil)) (pk_cons (pe_callTy call_tuple_of (by rfl) T.tuple (by decide +kernel) (pa_cons (pv 6) pa_nil)) (pk_cons (pe_callTy call_tuple_of (by rfl) T.tuple (by decide +kernel) (pa_cons (pe_callTy (call_listD rfl) (by rfl) T.list (by decide +kernel) (pa_cons (pv 7) pa_nil)) pa_nil)) pk_nil)))))
  (pss_cons (ps_if (pt_cmpR op_notN (pv 8) pe_non (nomark _))
  (pss_one (ps_raise rfl (takes_of rfl rfl rfl rfl) (pmk_oex T.x_NoProgram T.i_NoProgram T.ti_NoProgram (ok_np T) (hr.mono (by omega)) T.b_np .nil pass0 (by rfl) T.gC_NoProgram (pa_cons (pv 8) pa_nil))))
  pss_nil)
  (pss_cons (ps_fld (pv 0) (pcall T.D_places (ok_places T N hN N) (hr.mono (by omega)) (by rfl) (pa_cons (pv 1) (pa_cons (pe_tup pa_nil) pa_nil))) rfl)
  (pss_cons (ps_if (pt_cmpR op_gt (pe_callB call_len_seq (by rfl) T.len PySem.boot_len (pa_cons (pe_fld (pv 0) rfl) pa_nil)) (pe_gi (by rfl) T.c_MOST_ROWS) (nomark _))
  (pss_one (ps_raise rfl (takes_of rfl rfl rfl rfl) (pmk_oex T.x_NoProgram T.i_NoProgram T.ti_NoProgram (ok_np T) (hr.mono (by omega)) T.b_np .nil pass0 (by rfl) T.gC_NoProgram (pa_cons (pe_tup pa_nil) pa_nil))))
  pss_nil)
  (pss_cons (ps_fld (pv 0) (pv 1) rfl)
  (pss_cons (ps_fld (pv 0) (pe_callTy call_dictC (by rfl) T.dict (by decide +kernel) (pa_cons (pv 5) pa_nil)) rfl)
  (pss_cons (ps_fld (pv 0) (pe_callTy call_list_of (by rfl) T.list (by decide +kernel) (pa_cons (pv 6) pa_nil)) rfl)
  (pss_one (ps_fld (pv 0) (pe_callTy call_dictC (by rfl) T.dict (by decide +kernel) (pa_cons (pv 7) pa_nil)) rfl))))))))))))), ?_⟩
    have failE : ∀ pl, progD N cs ls ws d = some pl → ∀ (H1 : Hp), V1 p H H1 → H1 p ≠ none → ∀ t dd : Addr, SqT K H1 t (pl.map V.int) → H1 dd = none → E (.ref T.C_NoProgram) (some dd) (upd H1 dd (.xd [("place", .ref t)])) := fun pl e H1 v1 hp1 t dd ht nd => by
      have nH : H dd = none := by
        cases h : H dd with
        | none => rfl
        | some o =>
          by_cases e2 : dd = p
          · rw [e2] at nd; exact absurd nd hp1
          · rw [v1 _ _ h e2] at nd; cases nd
      have z := q _ (v1.trans (same_upd (o := .xd [("place", .ref t)]) nd))
      rw [e] at z
      exact z t dd ((same_upd nd).sqt ht) upd_same nH
    -- first
    refine ⟨fun σ H1 => ∃ a1, σ = [some (.ref p), some b, some vc, some vl, some vw, some (.ref a1), none, none, none] ∧ Same H H1 ∧ H1 a1 = some (.dK (dI cs)), ?_, ?_⟩
    · refine ⟨_, rfl, rfl, _, rfl, ?_⟩
      rcases hc with ⟨rfl, rfl⟩ | ⟨a, rfl, ha⟩
      · exact ite1 (decide_eq_true rfl) fun d1 nd => ⟨d1, rfl, same_upd nd, upd_same⟩
      · exact ite0 (decide_eq_false (by intro z; cases z)) ⟨_, rfl, a, rfl, Same.refl H, ha⟩
    rintro _ H1 ⟨a1, rfl, s1, h1⟩
    -- keys
    refine ⟨fun σ H2 => ∃ a2, σ = [some (.ref p), some b, some vc, some vl, some vw, some (.ref a1), some (.ref a2), none, none] ∧ Same H1 H2 ∧ H2 a2 = some (.lst (ls.map V.str)), ?_, ?_⟩
    · refine ⟨_, rfl, rfl, _, rfl, ?_⟩
      rcases hl with ⟨rfl, rfl⟩ | ⟨a, rfl, ha⟩
      · exact ite1 (decide_eq_true rfl) ⟨Nat.zero_le _, fun d1 nd => ⟨d1, rfl, same_upd nd, upd_same⟩⟩
      · exact ite0 (decide_eq_false (by intro z; cases z)) ⟨_, rfl, a, rfl, Same.refl H1, s1 _ _ ha⟩
    rintro _ H2 ⟨a2, rfl, s2, h2⟩
    -- widths
    refine ⟨fun σ H3 => ∃ a3, σ = [some (.ref p), some b, some vc, some vl, some vw, some (.ref a1), some (.ref a2), some (.ref a3), none] ∧ Same H2 H3 ∧ H3 a3 = some (.dK (dI ws)), ?_, ?_⟩
    · refine ⟨_, rfl, rfl, _, rfl, ?_⟩
      rcases hw with ⟨rfl, rfl⟩ | ⟨a, rfl, ha⟩
      · exact ite1 (decide_eq_true rfl) fun d1 nd => ⟨d1, rfl, same_upd nd, upd_same⟩
      · exact ite0 (decide_eq_false (by intro z; cases z)) ⟨_, rfl, a, rfl, Same.refl H2, s2 _ _ (s1 _ _ ha)⟩
    rintro _ H3 ⟨a3, rfl, s3, h3⟩
    have s03 := (s1.trans s2).trans s3
    have h1 := s3 _ _ (s2 _ _ h1)
    have h2 := s3 _ _ h2
    clear s1 s2 s3 hc hl hw
    -- the tests
    have bad : ∀ H4, Same H H4 → (sizesD (-99) 99 cs && (locksD ls && sizesD 1 4 ws)) = false → ∀ t dd : Addr, H4 t = none → (upd H4 t (.tup [])) dd = none → E (.ref T.C_NoProgram) (some dd) (upd (upd H4 t (.tup [])) dd (.xd [("place", .ref t)])) := fun H4 s4 e t dd nt nd => by
      refine failE [] (by unfold progD; rw [e]; rfl) _ (V1.of (s4.trans (same_upd nt))) ?_ t dd (stt upd_same) nd
      rw [(s4.trans (same_upd nt)) _ _ hp]
      exact Option.some_ne_none _
    refine ⟨_, rfl, _, rfl, a1, cs, -99, 99, rfl, h1, okc.nd, okc.few, okc.ok, fun H4 s4 => ⟨_, rfl, ?_⟩⟩
    have s04 := s03.trans s4
    cases e1 : sizesD (-99) 99 cs with
    | false => exact iteT (iteT ⟨Nat.zero_le _, fun t nt => mkO_of fun dd nd => bad H4 s04 (by rw [e1]; rfl) t dd nt nd⟩)
    | true =>
    refine iteF ⟨_, rfl, a2, ls, rfl, s4 _ _ h2, fewl, okl, fun H5 s5 => ⟨_, rfl, ?_⟩⟩
    have s05 := s04.trans s5
    cases e2 : locksD ls with
    | false => exact iteT (iteT ⟨Nat.zero_le _, fun t nt => mkO_of fun dd nd => bad H5 s05 (by rw [e1, e2]; rfl) t dd nt nd⟩)
    | true =>
    refine iteF ⟨_, rfl, a3, ws, 1, 4, rfl, s5 _ _ (s4 _ _ h3), okw.nd, okw.few, okw.ok, fun H6 s6 => ⟨_, rfl, ?_⟩⟩
    have s06 := s05.trans s6
    cases e3 : sizesD 1 4 ws with
    | false => exact iteT ⟨Nat.zero_le _, fun t nt => mkO_of fun dd nd => bad H6 s06 (by rw [e1, e2, e3]; rfl) t dd nt nd⟩
    | true =>
    refine iteF ?_
    have h1 := s6 _ _ (s5 _ _ (s4 _ _ h1))
    have h2 := s6 _ _ (s5 _ _ (s4 _ _ h2))
    have h3 := s6 _ _ (s5 _ _ (s4 _ _ h3))
    clear s4 s5 s6 s03 s04 s05 bad
    have eP : progD N cs ls ws d = match firstD (cs.map (·.1)) ls (ws.map (·.1)) N d with
      | some pl => some pl
      | none => if (placesD N (rowsD d) []).length ≤ 60 then none else some [] := by
      unfold progD
      rw [e1, e2, e3]
      rfl
    have kk : ∀ kvs : List (Str × Int), (dI kvs).map (fun kv => kV kv.1) = (kvs.map (·.1)).map V.str := fun kvs => by
      unfold dI
      rw [List.map_map, List.map_map]
      rfl
    show tSeq _ _ _ _ _
    -- wrong
    refine ⟨_, rfl, _, rfl, a1, _, rfl, .inl h1, fun l1 n1 => ⟨l1, _, rfl, .inl ⟨sl upd_same, fun t1 m1 => ?_⟩⟩⟩
    rw [kk]
    rw [kk] at m1
    have sA := (same_upd (o := .lst ((cs.map (·.1)).map V.str)) n1).trans (same_upd (o := .tup ((cs.map (·.1)).map V.str)) m1)
    have hA : (upd (upd H6 l1 (.lst ((cs.map (·.1)).map V.str))) t1 (.tup ((cs.map (·.1)).map V.str))) t1 = some (.tup ((cs.map (·.1)).map V.str)) := upd_same
    generalize upd (upd H6 l1 (.lst ((cs.map (·.1)).map V.str))) t1 (.tup ((cs.map (·.1)).map V.str)) = HA at sA hA ⊢
    refine ⟨_, rfl, a2, _, rfl, .inl ⟨sl (sA _ _ h2), fun t2 m2 => ?_⟩⟩
    have sB := same_upd (o := .tup (ls.map V.str)) m2
    have hB : (upd HA t2 (.tup (ls.map V.str))) t2 = some (.tup (ls.map V.str)) := upd_same
    generalize upd HA t2 (.tup (ls.map V.str)) = HB at sB hB ⊢
    refine ⟨_, rfl, a3, _, rfl, .inl (sB _ _ (sA _ _ h3)), fun l3 n3 => ⟨l3, _, rfl, .inl ⟨sl upd_same, fun t3 m3 => ?_⟩⟩⟩
    rw [kk]
    rw [kk] at m3
    have sC := (same_upd (o := .lst ((ws.map (·.1)).map V.str)) n3).trans (same_upd (o := .tup ((ws.map (·.1)).map V.str)) m3)
    have hC : (upd (upd HB l3 (.lst ((ws.map (·.1)).map V.str))) t3 (.tup ((ws.map (·.1)).map V.str))) t3 = some (.tup ((ws.map (·.1)).map V.str)) := upd_same
    generalize upd (upd HB l3 (.lst ((ws.map (·.1)).map V.str))) t3 (.tup ((ws.map (·.1)).map V.str)) = HC at sC hC ⊢
    have s0C := s06.trans ((sA.trans sB).trans sC)
    have s6C := (sA.trans sB).trans sC
    refine ⟨rfl, rfl, b, d, t1, t2, t3, _, _, _, rfl, s0C.dp hd, good, stt (sC _ _ (sB _ _ hA)), stt (sC _ _ hB), stt hC, fun v H7 s7 hres => ?_⟩
    have s07 := s0C.trans s7
    have h1 := s7 _ _ (s6C _ _ h1)
    have h2 := s7 _ _ (s6C _ _ h2)
    have h3 := s7 _ _ (s6C _ _ h3)
    have hp7 := s07 _ _ hp
    clear s7 s6C sA sB sC
    refine ⟨_, rfl, rfl, _, rfl, ?_⟩
    cases e4 : firstD (cs.map (·.1)) ls (ws.map (·.1)) N d with
    | some pl =>
      rw [e4] at hres eP
      obtain ⟨t, rfl, ht⟩ := hres
      refine ite1 (by rw [decide_eq_false (by intro z; cases z)]; rfl) ⟨_, rfl, mkO_of fun dd nd => failE pl eP _ (V1.of s07) ?_ t dd ht nd⟩
      rw [hp7]
      exact Option.some_ne_none _
    | none =>
    rw [e4] at hres eP
    have hres : v = .non := hres
    subst hres
    dsimp only at eP
    refine ite0 (by rw [decide_eq_true rfl]; rfl) ?_
    obtain ⟨rows, rfl⟩ : ∃ rows, d = .tuple rows := by cases d <;> first | exact ⟨_, rfl⟩ | cases e4
    have e4 : wrongD (cs.map (·.1)) ls (ws.map (·.1)) N rows [] [] 0 = none := e4
    obtain ⟨bb, xs, rfl, hx, hall⟩ := dp_tup hd
    have hsz : (placesD N rows []).length ≤ sizeLine := hsz
    have eP : progD N cs ls ws (.tuple rows) = if (placesD N rows []).length ≤ 60 then none else some [] := eP
    show tSeq _ _ _ _ _
    -- spots
    refine ⟨_, rfl, Nat.zero_le _, fun t nt => ?_⟩
    have sD := same_upd (o := .tup []) nt
    have hD : (upd H7 t (.tup [])) t = some (.tup []) := upd_same
    generalize upd H7 t (.tup []) = H8 at sD hD ⊢
    have s08 := s07.trans sD
    refine ⟨bb, t, rows, [], _, _, _, [], 0, rfl, s08.dp hd, good, Nat.le_refl _, stt hD, Nat.zero_le _, e4, hsz, fun l H9 vs s9 hl9 nl9 hPL => ?_⟩
    have s09 := s08.trans s9
    have s79 := sD.trans s9
    have h1 := s79 _ _ h1
    have h2 := s79 _ _ h2
    have h3 := s79 _ _ h3
    have hp9 := s79 _ _ hp7
    have v09 := V1.of (p := p) s09
    have nl0 := s08.free nl9
    clear sD s9 s79 s07 s08 hp7
    refine ⟨_, rfl, p, T.C_Program, dx, [], rfl, hp9, T.cl_Program, T.na_Program_spots, by decide, ?_⟩
    have ne : ∀ {a : Addr} {o : HO}, H9 a = some o → (∀ C dx fs, o ≠ .ins C dx fs) → a ≠ p := fun h z e => by
      subst e
      rw [hp9] at h
      exact z _ _ _ (Option.some.inj h).symm
    have l_p : l ≠ p := ne hl9 (by intro _ _ _ z; cases z)
    have hl10 : (upd H9 p (.ins T.C_Program dx (putF "spots" (.ref l) []))) l = some (.lst vs) := by rw [upd_ne l_p]; exact hl9
    have hp10 : (upd H9 p (.ins T.C_Program dx (putF "spots" (.ref l) []))) p = some (.ins T.C_Program dx [("spots", .ref l)]) := upd_same
    have v10 : V1 p H (upd H9 p (.ins T.C_Program dx (putF "spots" (.ref l) []))) := v09.set
    have w10 : V1 p H9 (upd H9 p (.ins T.C_Program dx (putF "spots" (.ref l) []))) := (V1.of (Same.refl _)).set
    generalize upd H9 p (.ins T.C_Program dx (putF "spots" (.ref l) [])) = H10 at hl10 hp10 v10 w10 ⊢
    have lenv : vs.length = (placesD N rows []).length := paired_len hPL
    refine ⟨_, rfl, p, T.C_Program, dx, _, _, rfl, hp10, T.cl_Program, T.na_Program_spots, rfl, l, _, rfl, .inl (sl hl10), _, _, rfl, rfl, _, rfl, ?_⟩
    refine ite2 (fun hm => ?_) (fun hm => ?_)
    · have hm := of_decide_eq_true hm
      have e60 : ¬ (placesD N rows []).length ≤ 60 := by omega
      refine ⟨Nat.zero_le _, fun t nt => mkO_of fun dd nd => failE [] (by rw [eP, if_neg e60]) _ (v10.trans (same_upd nt)) ?_ t dd (stt upd_same) nd⟩
      rw [same_upd nt _ _ hp10]
      exact Option.some_ne_none _
    have e60 : (placesD N rows []).length ≤ 60 := by
      have : ¬ (60 : Int) < (vs.length : Nat) := fun z => hm (decide_eq_true z)
      omega
    rw [if_pos e60] at eP
    -- the fields
    refine ⟨_, rfl, _, rfl, p, T.C_Program, dx, _, rfl, hp10, T.cl_Program, T.na_Program_tree, by show 1 < 1000; decide, ?_⟩
    have h1 := w10 _ _ h1 (ne h1 (by intro _ _ _ z; cases z))
    have h2 := w10 _ _ h2 (ne h2 (by intro _ _ _ z; cases z))
    have h3 := w10 _ _ h3 (ne h3 (by intro _ _ _ z; cases z))
    have put : ∀ (Ha : Hp) (f : Str) (v : V) (fs fs' : List (Str × V)), putF f v fs = fs' → Ha p = some (.ins T.C_Program dx fs) → V1 p H Ha → ∀ Hb, Hb = upd Ha p (.ins T.C_Program dx (putF f v fs)) → Hb p = some (.ins T.C_Program dx fs') ∧ V1 p H Hb ∧ (∀ a o, Ha a = some o → (∀ C dx fs, o ≠ .ins C dx fs) → Hb a = some o) := fun Ha f v fs fs' e h1 h2 Hb e2 => by
      subst e2
      refine ⟨by rw [upd_same, e], h2.set, fun a o h3 h4 => ?_⟩
      rw [upd_ne (fun z => by subst z; rw [h1] at h3; exact h4 _ _ _ (Option.some.inj h3).symm)]
      exact h3
    obtain ⟨hp11, v11, k11⟩ := put H10 "tree" (.ref bb) _ _ rfl hp10 v10 _ rfl
    generalize upd H10 p (.ins T.C_Program dx (putF "tree" (.ref bb) [("spots", .ref l)])) = H11 at hp11 v11 k11 ⊢
    have h1 := k11 _ _ h1 (by intro _ _ _ z; cases z)
    have h2 := k11 _ _ h2 (by intro _ _ _ z; cases z)
    have h3 := k11 _ _ h3 (by intro _ _ _ z; cases z)
    have hl11 := k11 _ _ hl10 (by intro _ _ _ z; cases z)
    refine ⟨_, rfl, a1, _, rfl, .inl h1, fun f nf => ⟨_, rfl, p, T.C_Program, dx, _, rfl, same_upd nf _ _ hp11, T.cl_Program, T.na_Program_first, by show 2 < 1000; decide, ?_⟩⟩
    obtain ⟨hp12, v12, k12⟩ := put (upd H11 f (.dK (dI cs))) "first" (.ref f) _ _ rfl (same_upd nf _ _ hp11) (v11.trans (same_upd nf)) _ rfl
    have hf12 := k12 f _ upd_same (by intro _ _ _ z; cases z)
    have h2 := k12 _ _ (same_upd nf _ _ h2) (by intro _ _ _ z; cases z)
    have h3 := k12 _ _ (same_upd nf _ _ h3) (by intro _ _ _ z; cases z)
    have hl12 := k12 _ _ (same_upd nf _ _ hl11) (by intro _ _ _ z; cases z)
    generalize upd (upd H11 f (.dK (dI cs))) p (.ins T.C_Program dx (putF "first" (.ref f) (putF "tree" (.ref bb) [("spots", .ref l)]))) = H12 at hp12 v12 k12 hf12 h2 h3 hl12 ⊢
    refine ⟨_, rfl, a2, _, rfl, .inl (sl h2), fun g ng => ⟨_, rfl, p, T.C_Program, dx, _, rfl, same_upd ng _ _ hp12, T.cl_Program, T.na_Program_bolts, by show 3 < 1000; decide, ?_⟩⟩
    obtain ⟨hp13, v13, k13⟩ := put (upd H12 g (.lst (ls.map V.str))) "bolts" (.ref g) _ _ rfl (same_upd ng _ _ hp12) (v12.trans (same_upd ng)) _ rfl
    have gl : l ≠ g := ne_of_none hl12 ng
    have hg13 := k13 g _ upd_same (by intro _ _ _ z; cases z)
    have hf13 := k13 _ _ (same_upd ng _ _ hf12) (by intro _ _ _ z; cases z)
    have h3 := k13 _ _ (same_upd ng _ _ h3) (by intro _ _ _ z; cases z)
    have hl13 := k13 _ _ (same_upd ng _ _ hl12) (by intro _ _ _ z; cases z)
    show tSeq _ _ _ _ _
    generalize upd (upd H12 g (.lst (ls.map V.str))) p (.ins T.C_Program dx (putF "bolts" (.ref g) (putF "first" (.ref f) (putF "tree" (.ref bb) [("spots", .ref l)])))) = H13 at hp13 v13 k13 hg13 hf13 h3 hl13 ⊢
    refine ⟨_, rfl, a3, _, rfl, .inl h3, fun wd nw => ⟨_, rfl, p, T.C_Program, dx, _, rfl, same_upd nw _ _ hp13, T.cl_Program, T.na_Program_widths, by show 4 < 1000; decide, ?_⟩⟩
    obtain ⟨hp14, v14, k14⟩ := put (upd H13 wd (.dK (dI ws))) "widths" (.ref wd) _ _ rfl (same_upd nw _ _ hp13) (v13.trans (same_upd nw)) _ rfl
    have fw : f ≠ wd := ne_of_none hf13 nw
    have kA : ∀ a o, H9 a = some o → (∀ C dx fs, o ≠ .ins C dx fs) → (upd (upd H13 wd (.dK (dI ws))) p (.ins T.C_Program dx (putF "widths" (.ref wd) (putF "bolts" (.ref g) (putF "first" (.ref f) (putF "tree" (.ref bb) [("spots", .ref l)])))))) a = some o :=
      fun a o h z => k14 _ _ (same_upd nw _ _ (k13 _ _ (same_upd ng _ _ (k12 _ _ (same_upd nf _ _ (k11 _ _ (w10 _ _ h (ne h z)) z)) z)) z)) z
    have z := q _ v14
    rw [eP] at z
    exact z ⟨dx, l, f, g, wd, vs, hp14, kA _ _ hl9 (by intro _ _ _ z; cases z), paired_imp (fun _ _ ⟨t, e, h⟩ => ⟨t, e, sqt_kept kA h⟩) hPL, k14 _ _ (same_upd nw _ _ hf13) (by intro _ _ _ z; cases z), k14 _ _ (same_upd nw _ _ hg13) (by intro _ _ _ z; cases z), k14 _ _ upd_same (by intro _ _ _ z; cases z), gl, fw, nl0, v11.free nf hp11, v12.free ng hp12, v13.free nw hp13⟩
end
end TP
namespace TP
open PySem PySem.Spec PyProof.Rows L2 HX HB HG HU HH HD HS HV HQ HK HN TL
/-! ### what is drawn from -/
section
variable {d g c : Addr} {H H' H'' : Hp} {K : PySem.W.Frag}
end
theorem seq0 {α : Type} {x : α} (xs : List α) : seqIndex? 0 (x :: xs).length = some 0 := by
  unfold seqIndex?
  simp
theorem dp_ints {K : PySem.W.Frag} {H : Hp} : ∀ ns : List Int, DpAll K H (ns.map V.int) (ns.map PyData.int)
  | [] => .nil
  | n :: ns => .cons (.int n) (dp_ints ns)
theorem ints_lay : ∀ ns : List Int, PyData.canLayAll0 (ns.map PyData.int) = true
  | [] => rfl
  | n :: ns => by simp only [List.map_cons, PyData.canLayAll0, PyData.canLay0, ints_lay ns, Bool.and_self]
theorem ints_depth : ∀ ns : List Int, PyData.depthAll (ns.map PyData.int) = 0
  | [] => rfl
  | n :: ns => by simp only [List.map_cons, PyData.depthAll, PyData.depth, ints_depth ns, Nat.max_self]
theorem ints_shaped (ns : List Int) : SeqAt.shaped (.list (ns.map PyData.int)) = true := by
  show (PyData.canLay0 (.list (ns.map PyData.int)) && decide (PyData.depth (.list (ns.map PyData.int)) ≤ 64)) = true
  simp only [PyData.canLay0, PyData.depth, ints_lay ns, ints_depth ns]
  rfl
section
variable {P : Program} {w : World} {K : PySem.W.Frag} {mg : Str → Option Value} {base : Heap}
end
/-! ### names -/
theorem join_name {cs : List Nat} (h1 : 1 ≤ cs.length) (h6 : cs.length ≤ 6) (hl : ∀ c ∈ cs, isLow c = true) : isNameL (Txt.join Str.empty (cs.map sg)) = true := by
  have e := join_sg cs
  have el : (Txt.join Str.empty (cs.map sg)).length = cs.length := by
    have := congrArg List.length e
    rw [Array.length_toList] at this
    exact this
  unfold isNameL
  rw [el, e, decide_eq_true h1, decide_eq_true h6, List.all_eq_true.mpr hl]
  rfl
theorem sg_sum : ∀ cs : List Nat, ((cs.map sg).map (·.length)).sum = cs.length
  | [] => rfl
  | c :: cs => by
    rw [List.map_cons, List.map_cons, List.sum_cons, sg_sum cs, List.length_cons]
    show 1 + cs.length = cs.length + 1
    omega
theorem letters_at {j : Nat} (h : j < 26) : atI ("abcdefghijklmnopqrstuvwxyz" : Str).cps.toList (j : Int) = some (j + 97) := by
  refine atI_nat ?_
  have e : ("abcdefghijklmnopqrstuvwxyz" : Str).cps.toList = (List.range 26).map (· + 97) := by decide +kernel
  rw [e, List.getElem?_map, List.getElem?_range h]
  rfl
section
variable {P : Program} {w : World} {K : PySem.W.Frag} {mg : Str → Option Value} {base : Heap}
def own13 : List Str := ["put", "read", "write", "tell", "send", "take", "hold", "rest", "nest", "within", "start", "off", "shield"]
def own13b : List Str := ["fail", "catch", "try", "if", "often", "cell", "lock", "sum", "minus", "less", "clock", "a", "ab"]
def own26 : List Str := own13 ++ own13b
theorem own_names : ∀ z ∈ own26, isNameL z = true := by decide +kernel
end
section
variable {P : Program} {w : World} {K : PySem.W.Frag} {mg : Str → Option Value} {base : Heap}
theorem kb_prog (T : Tp K w mg) : KBn K T.fd_prog ["self", "body", "cells", "locks", "channels"] 2 ["cells", "locks", "channels"] (fun us ws => us ++ ws) (fun vs zs => vs ++ zs) := by
  obtain ⟨mv, h⟩ := T.D_prog.kbinds0 (ps := ["self", "body", "cells", "locks", "channels"]) 2 ["cells", "locks", "channels"] [] (fun us _ ws => us ++ ws) (List.cons_ne_nil _ _) (fun q h => by cases h) (fun a _ c => a.append c)
    (fun D doc pm an cdv ct us mv ws h1 h2 h3 => match us, ws, mv, h1, h2, h3 with | [_, _], [_, _, _], [], _, _, _ => rfl)
  exact h
theorem ArgD.same {H H' : Hp} {v : V} {kvs : List (Str × Int)} (h : ArgD H v kvs) (s : Same H H') : ArgD H' v kvs := by
  rcases h with h | ⟨a, e, h⟩
  · exact .inl h
  · exact .inr ⟨a, e, s _ _ h⟩
theorem ArgL.same {H H' : Hp} {v : V} {zs : List Str} (h : ArgL H v zs) (s : Same H H') : ArgL H' v zs := by
  rcases h with h | ⟨a, e, h⟩
  · exact .inl h
  · exact .inr ⟨a, e, s _ _ h⟩
end
/-! ### texts of small letters -/
structure Low (z : Str) : Prop where
  low : ∀ c ∈ z.cps.toList, isLow c = true
  few : z.length ≤ 1000
theorem Low.of {z : Str} (h : isNameL z = true) : Low z := by
  unfold isNameL at h
  simp only [Bool.and_eq_true, decide_eq_true_eq, List.all_eq_true] at h
  exact ⟨h.2, by omega⟩
theorem Low.name {z : Str} (h : Low z) (h1 : 1 ≤ z.length) (h6 : z.length ≤ 6) : isNameL z = true := by
  unfold isNameL
  rw [decide_eq_true h1, decide_eq_true h6, List.all_eq_true.mpr h.low]
  rfl
theorem Low.ok {z : Str} (h : Low z) : okD (.str z) = true := by
  have := h.few
  simp only [okD, decide_eq_true_eq]
  omega
theorem isLow_lt {c : Nat} (h : isLow c = true) : 97 ≤ c ∧ c ≤ 122 := by
  unfold isLow at h
  simpa [Bool.and_eq_true] using h
theorem Low.lay {z : Str} (h : Low z) : PyData.canLay0 (.str z) = true := by
  show z.cps.all (fun c => decide (c < 0x110000)) = true
  rw [← Array.all_toList, List.all_eq_true]
  intro c hc
  have := isLow_lt (h.low c hc)
  exact decide_eq_true (by omega)
theorem low_app {x y : Str} (hx : Low x) (hy : Low y) (h : x.length + y.length ≤ 1000) : Low (x ++ y) := by
  refine ⟨fun c hc => ?_, by rw [strLen_append]; exact h⟩
  rw [show (x ++ y).cps.toList = x.cps.toList ++ y.cps.toList from tl_append x y] at hc
  rcases List.mem_append.mp hc with hc | hc
  · exact hx.low c hc
  · exact hy.low c hc
theorem low_sg {k : Nat} (h : k < 26) : Low (sg (k + 97)) := by
  refine ⟨fun c hc => ?_, by show 1 ≤ 1000; decide⟩
  have : c = k + 97 := by simpa [sg] using hc
  subst this
  unfold isLow
  rw [decide_eq_true (by omega), decide_eq_true (by omega)]
  rfl
theorem low_cut {z : Str} (h : Low z) (lo hi : Option Int) : Low (cutS z lo hi) := by
  refine ⟨fun c hc => h.low c ?_, Nat.le_trans (cutS_length z lo hi) h.few⟩
  unfold cutS at hc
  exact List.mem_of_mem_drop (List.mem_of_mem_take (by simpa using hc))
theorem cut_last {z : Str} (h : z.length ≤ 6) : cutS z (some (-6)) none = z := by
  unfold cutS
  have e : HT.sIx z.length 0 (some (-6)) = 0 := by
    show (if (-6 : Int) < 0 then ((-6 : Int) + (z.length : Int)).toNat else min (-6 : Int).toNat z.length) = 0
    rw [if_pos (by decide)]
    omega
  rw [e, HT.sIx_none, List.drop_zero, Nat.sub_zero, show z.length = z.cps.toList.length by simp [Str.length], List.take_length]
/-! ### data that is fit -/
theorem Good.str {z : Str} (h : Low z) (n : Nat) : Good (.str z) n := ⟨h.ok, h.lay, Nat.zero_le _⟩
theorem Good.int (i : Int) (n : Nat) : Good (.int i) n := ⟨rfl, rfl, Nat.zero_le _⟩
theorem okAll_of : ∀ {xs : List PyData}, (∀ x ∈ xs, okD x = true) → okAll xs = true
  | [], _ => rfl
  | x :: xs, h => by
    simp only [okAll, Bool.and_eq_true]
    exact ⟨h x (List.mem_cons_self ..), okAll_of fun y hy => h y (List.mem_cons_of_mem _ hy)⟩
theorem layAll_of : ∀ {xs : List PyData}, (∀ x ∈ xs, PyData.canLay0 x = true) → PyData.canLayAll0 xs = true
  | [], _ => rfl
  | x :: xs, h => by
    simp only [PyData.canLayAll0, Bool.and_eq_true]
    exact ⟨h x (List.mem_cons_self ..), layAll_of fun y hy => h y (List.mem_cons_of_mem _ hy)⟩
theorem depAll_of {n : Nat} : ∀ {xs : List PyData}, (∀ x ∈ xs, PyData.depth x ≤ n) → PyData.depthAll xs ≤ n
  | [], _ => Nat.zero_le _
  | x :: xs, h => by
    simp only [PyData.depthAll]
    have h1 := h x (List.mem_cons_self ..)
    have h2 := depAll_of fun y hy => h y (List.mem_cons_of_mem _ hy)
    omega
theorem Good.tup {xs : List PyData} {n : Nat} (h : ∀ x ∈ xs, Good x n) (l : xs.length ≤ 10000) : Good (.tuple xs) (n + 1) := by
  refine ⟨?_, layAll_of fun x hx => (h x hx).lay, ?_⟩
  · simp only [okD, Bool.and_eq_true, decide_eq_true_eq]
    exact ⟨l, okAll_of fun x hx => (h x hx).ok⟩
  · have := depAll_of fun x hx => (h x hx).dep
    show PyData.depthAll xs + 1 ≤ n + 1
    omega
/-! ### displays: new tuples, new lists -/
section
variable {K : PySem.W.Frag} {H : Hp}
theorem new_tup {xs : List V} {ds : List PyData} {p : Addr} (np : H p = none) (hx : DpAll K H xs ds) : Same H (upd H p (.tup xs)) ∧ Dp K (upd H p (.tup xs)) (.ref p) (.tuple ds) :=
  ⟨same_upd np, .tup (stt upd_same) ((same_upd np).dpAll hx)⟩
theorem new_lst {xs : List V} {p : Addr} (np : H p = none) : Same H (upd H p (.lst xs)) ∧ (upd H p (.lst xs)) p = some (.lst xs) := ⟨same_upd np, upd_same⟩
end
theorem str_lit {z : Str} (h : (decide (z.length ≤ 20) && z.cps.toList.all isLow) = true) : Low z := by
  simp only [Bool.and_eq_true, decide_eq_true_eq, List.all_eq_true] at h
  exact ⟨h.2, by omega⟩
theorem look_none {ps : List (Str × Str)} {z : Str} (h : z ∉ ps.map (·.1)) : lookW ps z = none := by
  cases e : lookW ps z with
  | none => rfl
  | some w => exact absurd (lookW_mem e) h
theorem part_name {cs ls hs : List Str} {ps : List (Str × Str)} {z : Str} (h : isNameL z = true) : isPartD cs ls hs ps "name" (.str z) = true := by
  show (isNameL z && namePart "name" z cs ls hs ps) = true
  rw [h]
  rfl
theorem part_sc {cs ls hs : List Str} {ps : List (Str × Str)} {z : Str} (h : isNameL z = true) (hz : z ∉ ps.map (·.1)) : isPartD cs ls hs ps "scope" (.str z) = true := by
  show (isNameL z && (decide (("scope" : Str) = "name") || decide ((lookW ps z).isSome = decide (("scope" : Str) = "entered")))) = true
  rw [h, look_none hz]
  rfl
theorem part_tup {cs ls hs : List Str} {ps : List (Str × Str)} {xs : List PyData} : isPartD cs ls hs ps "body" (.tuple xs) = true := rfl
theorem row2 {cs ls hs : List Str} {ps : List (Str × Str)} {z k1 : Str} {a : PyData} (h : kindsOf z = some [k1]) (h1 : isPartD cs ls hs ps k1 a = true) : isRowD cs ls hs ps (.tuple [.str z, a]) = true := by
  simp only [isRowD, h, List.length_cons, List.length_nil, decide_true, List.zip_cons_cons, List.zip_nil_left, List.all_cons, List.all_nil, h1, Bool.and_self]
theorem row3 {cs ls hs : List Str} {ps : List (Str × Str)} {z k1 k2 : Str} {a b : PyData} (h : kindsOf z = some [k1, k2]) (h1 : isPartD cs ls hs ps k1 a = true) (h2 : isPartD cs ls hs ps k2 b = true) : isRowD cs ls hs ps (.tuple [.str z, a, b]) = true := by
  simp only [isRowD, h, List.length_cons, List.length_nil, decide_true, List.zip_cons_cons, List.zip_nil_left, List.all_cons, List.all_nil, h1, h2, Bool.and_self]
theorem row4 {cs ls hs : List Str} {ps : List (Str × Str)} {z k1 k2 k3 : Str} {a b c : PyData} (h : kindsOf z = some [k1, k2, k3]) (h1 : isPartD cs ls hs ps k1 a = true) (h2 : isPartD cs ls hs ps k2 b = true) (h3 : isPartD cs ls hs ps k3 c = true) : isRowD cs ls hs ps (.tuple [.str z, a, b, c]) = true := by
  simp only [isRowD, h, List.length_cons, List.length_nil, decide_true, List.zip_cons_cons, List.zip_nil_left, List.all_cons, List.all_nil, h1, h2, h3, Bool.and_self]
theorem wrong_nil (cs ls hs : List Str) (n : Nat) (place : List Int) (ps : List (Str × Str)) (oft : Int) : wrongD cs ls hs n [] place ps oft = none := by
  cases n <;> rfl
/-- a row without bodies that may stand anywhere -/
structure Leaf (cs ls hs : List Str) (d : PyData) : Prop where
  row : ∀ ps, isRowD cs ls hs ps d = true
  oft : oftD d = 0
  bods : bodiesD d = []
theorem wrong_one {cs ls hs : List Str} {n : Nat} {row : PyData} {place : List Int} {ps : List (Str × Str)} {oft : Int} : wrongD cs ls hs (n + 1) [row] place ps oft = rowF cs ls hs n place ps oft 0 row := by
  have e : wrongD cs ls hs (n + 1) [row] place ps oft = firstSome (rowF cs ls hs n place ps oft) 0 [row] := by
    simp only [wrongD]
    rfl
  rw [e]
  simp only [firstSome]
  cases rowF cs ls hs n place ps oft 0 row <;> rfl
/-! ### data of tuples alone stand while draws are drawn -/
section
variable {K : PySem.W.Frag} {H H' : Hp} {d g c : Addr}
end
theorem tup_ints : ∀ ns : List Int, tupAll (ns.map .int) = true
  | [] => rfl
  | n :: ns => by simp only [List.map_cons, tupAll, tupD, tup_ints ns, Bool.and_self]
theorem dp_ints_inv {K : PySem.W.Frag} {H : Hp} : ∀ {ns : List Int} {xs : List V}, DpAll K H xs (ns.map .int) → xs = ns.map V.int
  | [], _, .nil => rfl
  | n :: ns, _, .cons (.int _) t => by rw [dp_ints_inv t]; rfl
theorem dp_place {K : PySem.W.Frag} {H : Hp} {v : V} {pl : List Int} (h : Dp K H v (.tuple (pl.map .int))) : ∃ t : Addr, v = .ref t ∧ SqT K H t (pl.map V.int) := by
  obtain ⟨a, xs, rfl, hx, hall⟩ := dp_tup h
  rw [dp_ints_inv hall] at hx
  exact ⟨a, rfl, hx⟩
/-! ### how many rows -/
def cntD : Nat → List PyData → Nat
  | 0, _ => 0
  | n + 1, rows => (rows.map fun row => 1 + ((bodiesD row).map fun b => cntD n (rowsD b)).sum).sum
theorem flat_len {α β : Type} {f : Nat → α → List β} {g : α → Nat} : ∀ {xs : List α} {i : Nat}, (∀ k x, (f k x).length = g x) → (flatF f i xs).length = (xs.map g).sum
  | [], _, _ => rfl
  | x :: xs, i, h => by
    simp only [flatF, List.length_append, List.map_cons, List.sum_cons]
    rw [h, flat_len h]
theorem places_len : ∀ (n : Nat) (rows : List PyData) (place : List Int), (placesD n rows place).length = cntD n rows
  | 0, _, _ => rfl
  | n + 1, rows, place => by
    simp only [placesD, cntD]
    refine flat_len fun k row => ?_
    rw [List.length_cons, flat_len (g := fun b => cntD n (rowsD b)) fun j b => places_len n _ _]
    omega
theorem cnt_app (n : Nat) (xs ys : List PyData) : cntD n (xs ++ ys) = cntD n xs + cntD n ys := by
  cases n with
  | zero => rfl
  | succ n => simp only [cntD, List.map_append, List.sum_append]
theorem cnt_nil (n : Nat) : cntD n [] = 0 := by cases n <;> rfl
/-! ### right rows, by their rows -/
theorem first_none {α β : Type} {f : Nat → α → Option β} : ∀ {xs : List α} {i : Nat}, (∀ k x, xs[k]? = some x → f (i + k) x = none) → firstSome f i xs = none
  | [], _, _ => rfl
  | x :: xs, i, h => by
    simp only [firstSome]
    rw [show f i x = none from h 0 x rfl]
    refine first_none fun k y e => ?_
    rw [show i + 1 + k = i + (k + 1) by omega]
    exact h (k + 1) y (by simpa using e)
theorem wrong_succ {cs ls hs : List Str} {n : Nat} {rows : List PyData} {place : List Int} {ps : List (Str × Str)} {oft : Int} : wrongD cs ls hs (n + 1) rows place ps oft = firstSome (rowF cs ls hs n place ps oft) 0 rows := by
  simp only [wrongD]
  rfl
theorem rowF_none' {cs ls hs : List Str} {n : Nat} {place : List Int} {ps : List (Str × Str)} {oft : Int} {i : Nat} {row : PyData} (h1 : place.length + 1 ≤ 19) (h2 : isRowD cs ls hs ps row = true) (h3 : oft + oftD row ≤ 3)
    (h4 : ∀ (j : Nat) b, (bodiesD row)[j]? = some b → wrongD cs ls hs n (rowsD b) (place ++ [(i : Int)] ++ [(j : Int)]) (arD row ps) (oft + oftD row) = none) : rowF cs ls hs n place ps oft i row = none := by
  unfold rowF
  rw [h2, if_neg (by simp; omega), if_neg (by omega)]
  exact first_none fun k x e => by rw [Nat.zero_add]; exact h4 k x e
theorem nodup_map {α β : Type} {f : α → β} {l : List α} (h : l.Nodup) (hf : ∀ a b, f a = f b → a = b) : (l.map f).Nodup := List.pairwise_map.mpr (List.Pairwise.imp (fun ne e => ne (hf _ _ e)) h)
/-! ### weights: no shown text is longer -/
mutual
def wtD : PyData → Nat
  | .int i => if i.natAbs ≤ 10 ^ 13 then 20 else 10 ^ 9
  | .str z => z.length + 4
  | .tuple xs => 4 + wtAll xs
  | .list xs => 4 + wtAll xs
  | .bool _ => 8
  | .none => 8
  | _ => 10 ^ 9
def wtAll : List PyData → Nat
  | [] => 0
  | x :: xs => wtD x + wtAll xs
end
theorem wt_app : ∀ (xs ys : List PyData), wtAll (xs ++ ys) = wtAll xs + wtAll ys
  | [], ys => by simp [wtAll]
  | x :: xs, ys => by simp only [List.cons_append, wtAll, wt_app xs ys]; omega
theorem wt_int {i : Int} (h : i.natAbs ≤ 10 ^ 13) : wtD (.int i) = 20 := by
  show (if i.natAbs ≤ 10 ^ 13 then 20 else 10 ^ 9) = 20
  rw [if_pos h]
theorem name_len {z : Str} (h : isNameL z = true) : 1 ≤ z.length ∧ z.length ≤ 6 := by
  unfold isNameL at h
  simp only [Bool.and_eq_true, decide_eq_true_eq] at h
  omega
theorem wt_name {z : Str} (h : isNameL z = true) : wtD (.str z) ≤ 10 := by
  have := (name_len h).2
  show z.length + 4 ≤ 10
  omega
def cw : Nat → Nat
  | 0 => 20
  | n + 1 => 14 + 2 * cw n
theorem cw_pos : ∀ n, 20 ≤ cw n
  | 0 => Nat.le_refl _
  | n + 1 => by have := cw_pos n; show 20 ≤ 14 + 2 * cw n; omega
/-! ### what rows may name -/
structure Sz (kvs : List (Str × Int)) (l u : Int) : Prop where
  names : ∀ q ∈ kvs, isNameL q.1 = true
  nd : (kvs.map (·.1)).Nodup
  few : kvs.length ≤ 4
  rng : ∀ q ∈ kvs, l ≤ q.2 ∧ q.2 ≤ u
structure Nm (cs : List (Str × Int)) (ls : List Str) (hs : List (Str × Int)) (ws : List Str) : Prop where
  cells : Sz cs (-99) 99
  lanes : Sz hs 1 4
  locks : ∀ z ∈ ls, isNameL z = true
  lnd : ls.Nodup
  lfew : ls.length ≤ 4
  words : ∀ z ∈ ws, isNameL z = true
  four : ws.length = 4
theorem Sz.okd {kvs : List (Str × Int)} {l u : Int} (h : Sz kvs l u) : OkD kvs := ⟨h.nd, Nat.le_trans h.few (by decide), fun q hq => ⟨(Low.of (h.names q hq)).ok, rfl⟩⟩
theorem Sz.sizes {kvs : List (Str × Int)} {l u : Int} (h : Sz kvs l u) : sizesD l u kvs = true := by
  unfold sizesD
  rw [decide_eq_true h.few, Bool.true_and, List.all_eq_true]
  intro q hq
  rw [h.names q hq, decide_eq_true (h.rng q hq)]
  rfl
theorem Nm.locksD {cs ls hs ws} (h : Nm cs ls hs ws) : locksD ls = true := by
  unfold TP.locksD
  rw [decide_eq_true h.lfew, List.all_eq_true.mpr h.locks, decide_eq_true h.lnd]
  rfl
section
variable {K : PySem.W.Frag} {H H' : Hp} {d g c pl C L Ch W : Addr} {cs : List (Str × Int)} {ls : List Str} {hs : List (Str × Int)} {ws : List Str} {k k' : Nat}
end
/-! ### a calc -/
theorem kindD_ok {k : Str} (h : k = "sum" ∨ k = "minus" ∨ k = "less") : isKindD (.str k) = true := decide_eq_true h
section
variable {P : Program} {w : World} {K : PySem.W.Frag} {mg : Str → Option Value} {base : Heap}
end
/-! ### unlike names -/
theorem pigeon {α : Type} [DecidableEq α] : ∀ (l m : List α), l.Nodup → (∀ x ∈ l, x ∈ m) → l.length ≤ m.length
  | [], _, _, _ => Nat.zero_le _
  | x :: l, m, hn, h => by
    have hx := h x (List.mem_cons_self ..)
    have hn' := List.nodup_cons.mp hn
    have ih := pigeon l (m.erase x) hn'.2 fun y hy => (List.mem_erase_of_ne (fun e => hn'.1 (by rw [← e]; exact hy))).mpr (h y (List.mem_cons_of_mem _ hy))
    rw [List.length_erase_of_mem hx] at ih
    have := List.length_pos_of_mem hx
    rw [List.length_cons]
    omega
def spare : List Str := ["za", "zb", "zc", "zd", "ze", "zf", "zg", "zh", "zi"]
theorem spare_names : ∀ z ∈ spare, isNameL z = true := by decide +kernel
theorem spare_nodup : spare.Nodup := by decide +kernel
section
variable {P : Program} {w : World} {K : PySem.W.Frag} {mg : Str → Option Value} {base : Heap}
end
section
variable {K : PySem.W.Frag} {H H' : Hp} {d g c pl C L Ch W : Addr} {cs : List (Str × Int)} {ls : List Str} {hs : List (Str × Int)} {ws : List Str}
end
theorem put_new (z : Str) (v : Int) (cs : List (Str × Int)) (h : z ∉ cs.map (·.1)) : putK (dI cs) (Sum.inr z) (.int v) = dI (cs ++ [(z, v)]) := by
  have hk : valV (dI cs) (Sum.inr z : Key) = none := by
    unfold valV
    have e : (dI cs).find? (fun kv => decide (kv.1 = (Sum.inr z : Key))) = none := List.find?_eq_none.mpr fun kv hkv => by
      unfold dI at hkv
      obtain ⟨q, hq, rfl⟩ := List.mem_map.mp hkv
      rw [decide_eq_true_eq]
      intro e
      exact h (List.mem_map.mpr ⟨q, hq, Sum.inr.inj e⟩)
    rw [e]
    rfl
  rw [putK_new _ hk]
  unfold dI
  rw [List.map_append]
  rfl
/-- .. so far: the first i names -/
structure Part (kvs : List (Str × Int)) (zs : List Str) (l u : Int) : Prop where
  keys : kvs.map (·.1) = zs
  rng : ∀ q ∈ kvs, l ≤ q.2 ∧ q.2 ≤ u
theorem Part.snoc {kvs : List (Str × Int)} {zs : List Str} {l u v : Int} {z : Str} (h : Part kvs zs l u) (h1 : l ≤ v) (h2 : v ≤ u) : Part (kvs ++ [(z, v)]) (zs ++ [z]) l u := by
  refine ⟨by rw [List.map_append, h.keys]; rfl, fun q hq => ?_⟩
  rcases List.mem_append.mp hq with hq | hq
  · exact h.rng q hq
  · rw [List.mem_singleton.mp hq]; exact ⟨h1, h2⟩
theorem Part.sz {kvs : List (Str × Int)} {zs : List Str} {l u : Int} (h : Part kvs zs l u) (hn : ∀ z ∈ zs, isNameL z = true) (nd : zs.Nodup) (few : zs.length ≤ 4) : Sz kvs l u :=
  ⟨fun q hq => hn _ (by rw [← h.keys]; exact List.mem_map.mpr ⟨q, hq, rfl⟩), by rw [h.keys]; exact nd, by have := congrArg List.length h.keys; rw [List.length_map] at this; omega, h.rng⟩
section
variable {P : Program} {w : World} {K : PySem.W.Frag} {mg : Str → Option Value} {base : Heap}
end
/-! ### the parts of rows, as letters -/
def shp1 : List (Str × Str) := [("put", "nc"), ("read", "nx"), ("write", "xc"), ("tell", "c"), ("send", "vc"), ("take", "nv"), ("hold", "lb")]
def shp2 : List (Str × Str) := [("rest", "t"), ("nest", "sb"), ("within", "tsb"), ("start", "sb"), ("off", "s"), ("shield", "b"), ("fail", "n")]
def shp3 : List (Str × Str) := [("catch", "bnb"), ("try", "bb"), ("if", "cbb"), ("often", "tb")]
theorem shp12 : mergeK (dz shp1) (dz shp2) = dz (shp1 ++ shp2) := by rw [mergeZ_dz]; congr 1
section
variable {P : Program} {w : World} {K : PySem.W.Frag} {mg : Str → Option Value} {base : Heap}
end
/-! ### the nests and withins around -/
def pairD (p : Str × Str) : PyData := .tuple [.str p.1, .str p.2]
structure PsOk (ps : List (Str × Str)) : Prop where
  names : ∀ p ∈ ps, isNameL p.1 = true
  words : ∀ p ∈ ps, p.2 = "nest" ∨ p.2 = "within"
  nd : (ps.map (·.1)).Nodup
  few : ps.length ≤ 10
theorem tup_pairs : ∀ ps : List (Str × Str), tupAll (ps.map pairD) = true
  | [] => rfl
  | p :: ps => by simp only [List.map_cons, tupAll, pairD, tupD, tup_pairs ps, Bool.and_self]
theorem good_pair {p : Str × Str} (h : isNameL p.1 = true) (h2 : p.2 = "nest" ∨ p.2 = "within") : Good (pairD p) 1 := Good.tup (fun x hx => by
  rcases List.mem_cons.mp hx with rfl | hx
  · exact Good.str (Low.of h) _
  · rw [List.mem_singleton.mp hx]
    refine Good.str (str_lit ?_) _
    rcases h2 with e | e <;> rw [e] <;> decide +kernel) (by show 2 ≤ 10000; decide)
theorem Good.lst {xs : List PyData} {n : Nat} (h : ∀ x ∈ xs, Good x n) (l : xs.length ≤ 10000) : Good (.list xs) (n + 1) := by
  refine ⟨?_, layAll_of fun x hx => (h x hx).lay, ?_⟩
  · simp only [okD, Bool.and_eq_true, decide_eq_true_eq]
    exact ⟨l, okAll_of fun x hx => (h x hx).ok⟩
  · have := depAll_of fun x hx => (h x hx).dep
    show PyData.depthAll xs + 1 ≤ n + 1
    omega
theorem PsOk.shaped {ps : List (Str × Str)} (h : PsOk ps) : SeqAt.shaped (.list (ps.map pairD)) = true := (Good.lst (n := 1) (fun x hx => by
  obtain ⟨p, hp, rfl⟩ := List.mem_map.mp hx
  exact good_pair (h.names p hp) (h.words p hp)) (by rw [List.length_map]; have := h.few; omega)).shaped (by decide)
theorem dp_strs : ∀ {K : PySem.W.Frag} {H : Hp} (zs : List Str), DpAll K H (zs.map V.str) (zs.map .str)
  | _, _, [] => .nil
  | _, _, z :: zs => .cons (.str z) (dp_strs zs)
theorem strs_shaped {zs : List Str} (h : ∀ z ∈ zs, isNameL z = true) (l : zs.length ≤ 1000) : SeqAt.shaped (.list (zs.map .str)) = true := (Good.lst (n := 0) (fun x hx => by
  obtain ⟨z, hz, rfl⟩ := List.mem_map.mp hx
  exact Good.str (Low.of (h z hz)) _) (by rw [List.length_map]; omega)).shaped (by decide)
theorem PsOk.sub {ps qs : List (Str × Str)} (h : PsOk ps) (s : qs.Sublist ps) : PsOk qs :=
  ⟨fun p hp => h.names p (s.subset hp), fun p hp => h.words p (s.subset hp), List.Nodup.sublist (s.map _) h.nd, Nat.le_trans s.length_le h.few⟩
theorem dp_pair {K : PySem.W.Frag} {H : Hp} {v : V} {p : Str × Str} (h : Dp K H v (pairD p)) : ∃ t : Addr, v = .ref t ∧ SqT K H t [.str p.1, .str p.2] := by
  obtain ⟨a, xs, rfl, hx, hall⟩ := dp_tup h
  cases hall with
  | cons h1 t =>
    cases h1
    cases t with
    | cons h2 t => cases h2; cases t; exact ⟨a, rfl, hx⟩
theorem eqv_nil {α : Type} (f : α → PyData) (xs : List α) : PyData.eqv (.list (xs.map f)) (.list []) = decide (xs.length = 0) := by
  cases xs with
  | nil => rfl
  | cons x xs => rfl
/-! ### the words that may stand -/
def base11 : List Str := ["put", "tell", "rest", "nest", "within", "shield", "fail", "catch", "try", "if", "often"]
def pick (b : Bool) (zs : List Str) : List Str := if b = true then zs else []
def nests (ps : List (Str × Str)) : List (Str × Str) := ps.filter fun p => decide (p.2 = "nest")
def possW (nc nl nh np : Bool) (ps : List (Str × Str)) : List Str :=
  (((base11 ++ pick nc ["read", "write"]) ++ pick nl ["hold"]) ++ pick nh ["send", "take"]) ++ pick np ["off"] ++ pick (!decide ((nests ps).length = 0)) ["start", "start"]
theorem pick_len (b : Bool) (zs : List Str) : (pick b zs).length ≤ zs.length := by
  unfold pick
  split
  · exact Nat.le_refl _
  · exact Nat.zero_le _
theorem poss_len (nc nl nh np : Bool) (ps : List (Str × Str)) : (possW nc nl nh np ps).length ≤ 30 := by
  unfold possW
  simp only [List.length_append]
  have h1 := pick_len nc ["read", "write"]
  have h2 := pick_len nl ["hold"]
  have h3 := pick_len nh ["send", "take"]
  have h4 := pick_len np ["off"]
  have h5 := pick_len (!decide ((nests ps).length = 0)) ["start", "start"]
  have h6 : base11.length = 11 := rfl
  simp only [List.length_cons, List.length_nil] at h1 h2 h3 h4 h5
  omega
theorem rep_pick (b : Bool) (zs : List Str) : (List.replicate ((if b = true then 1 else 0 : Int)).toNat (zs.map V.str)).flatten = (pick b zs).map V.str := by
  cases b with
  | true => show (List.replicate 1 _).flatten = _; simp [pick]
  | false => rfl
section
variable {P : Program} {w : World} {K : PySem.W.Frag} {mg : Str → Option Value} {base : Heap}
theorem rep_rd {H : Hp} {Q : VK} {l : Addr} {b : Bool} {zs : List Str} (h : H l = some (.lst (zs.map V.str))) (hz : zs.length ≤ 10) (q : ∀ p H', Same H H' → H' p = some (.lst ((pick b zs).map V.str)) → Q (.ref p) H') : rRep (.ref l) (.int (if b = true then 1 else 0)) H Q := by
  refine ⟨l, _, _, rfl, rfl, h, ?_, ?_, ?_, fun p np => ?_⟩
  · cases b <;> decide
  · cases b <;> decide
  · rw [List.length_map]
    have : (if b = true then 1 else 0 : Int).toNat ≤ 1 := by cases b <;> decide
    exact Nat.le_trans (Nat.mul_le_mul hz this) (by decide)
  · rw [rep_pick]
    exact q p _ (same_upd np) upd_same
theorem cat_rd {H : Hp} {Q : VK} {a b : Addr} {xs ys : List Str} (ha : H a = some (.lst (xs.map V.str))) (hb : H b = some (.lst (ys.map V.str))) (l : xs.length + ys.length ≤ 1000) (q : ∀ p H', H p = none → Same H H' → H' p = some (.lst ((xs ++ ys).map V.str)) → Q (.ref p) H') : rCat (.ref a) (.ref b) H Q := by
  refine ⟨a, b, _, _, rfl, rfl, ha, hb, by rw [List.length_map, List.length_map]; exact Nat.le_of_lt (small1000 l), fun p np => ?_⟩
  have e : xs.map V.str ++ ys.map V.str = (xs ++ ys).map V.str := by rw [List.map_append]
  rw [e]
  exact q p _ np (same_upd np) upd_same
theorem ne_empty {H : Hp} {Q : VK} {C e : Addr} {cs : List (Str × Int)} (hC : H C = some (.dK (dI cs))) (he : H e = some (.dK [])) (q : Q (.bl (!decide (cs.length = 0))) H) : rDB false (.ref C) (.ref e) H Q := by
  refine ⟨C, e, dI cs, [], rfl, rfl, hC, he, ?_⟩
  cases cs with
  | nil => exact .inl ⟨rfl, (fun p hp => by cases hp), q⟩
  | cons x cs => exact .inr ⟨by unfold dI; simp, q⟩
theorem neD_empty {H : Hp} {Q : VK} {a e : Addr} {α : Type} {xs : List α} {f : α → PyData} {vs : List V} (ha : H a = some (.lst vs)) (hv : DpAll K H vs (xs.map f)) (hs : SeqAt.shaped (.list (xs.map f)) = true) (he : H e = some (.lst [])) (q : Q (.bl (!decide (xs.length = 0))) H) : rNeD K (.ref a) (.ref e) H Q := by
  refine ⟨.list (xs.map f), .list [], .lst (sl ha) hv, .lst (sl he) .nil, hs, rfl, ?_⟩
  rw [eqv_nil]
  exact q
end
/-! ### right rows, as they are drawn -/
structure Rows (cn ls hn : List Str) (ps : List (Str × Str)) (deep : Nat) (oft : Int) (rows : List PyData) (k : Nat) : Prop where
  right : ∀ (n : Nat) (place : List Int), 10 ≤ n + deep → place.length = 2 * deep → wrongD cn ls hn (n + 1) rows place ps oft = none
  cnt : ∀ n : Nat, 10 ≤ n + deep → cntD (n + 1) rows = k
  good : ∀ r ∈ rows, Good r (2 * (10 - deep) + 1)
  tup : tupAll rows = true
  wt : wtAll rows ≤ 410 * k
structure Row1 (cn ls hn : List Str) (ps : List (Str × Str)) (deep : Nat) (oft : Int) (row : PyData) (k : Nat) : Prop where
  right : ∀ (n : Nat) (place : List Int) (i : Nat), 10 ≤ n + deep → place.length = 2 * deep → rowF cn ls hn n place ps oft i row = none
  cnt : ∀ n : Nat, 10 ≤ n + deep → 1 + ((bodiesD row).map fun b => cntD n (rowsD b)).sum = k
  good : Good row (2 * (10 - deep) + 1)
  tup : tupD row = true
  wt : wtD row ≤ 410 * k
section
variable {cn ls hn : List Str} {ps : List (Str × Str)} {deep : Nat} {oft : Int} {rows : List PyData} {row : PyData} {k m : Nat}
theorem Rows.nil : Rows cn ls hn ps deep oft [] 0 := ⟨fun n place _ _ => wrong_nil .., fun n _ => cnt_nil _, (fun _ h => by cases h), rfl, Nat.zero_le _⟩
theorem firstSome_app {α β : Type} {f : Nat → α → Option β} {xs ys : List α} {i : Nat} (h : firstSome f i xs = none) : firstSome f i (xs ++ ys) = firstSome f (i + xs.length) ys := by
  induction xs generalizing i with
  | nil => rfl
  | cons x xs ih =>
    simp only [firstSome, List.cons_append] at h ⊢
    cases e : f i x with
    | some b => rw [e] at h; cases h
    | none =>
      rw [e] at h
      dsimp only at h ⊢
      rw [ih h, List.length_cons]
      congr 1
      omega
theorem Rows.app {rows2 : List PyData} (h : Rows cn ls hn ps deep oft rows k) (h2 : ∀ (i n : Nat) (place : List Int), 10 ≤ n + deep → place.length = 2 * deep → firstSome (rowF cn ls hn n place ps oft) i rows2 = none) (c2 : ∀ n : Nat, 10 ≤ n + deep → cntD (n + 1) rows2 = m) (g2 : ∀ r ∈ rows2, Good r (2 * (10 - deep) + 1)) (t2 : tupAll rows2 = true) (w2 : wtAll rows2 ≤ 410 * m) :
    Rows cn ls hn ps deep oft (rows ++ rows2) (k + m) := by
  refine ⟨fun n place hn hp => ?_, fun n hn => by rw [cnt_app, h.cnt n hn, c2 n hn], fun r hr => ?_, tupAll_app h.tup t2, by rw [wt_app]; have := h.wt; omega⟩
  · have h1 := h.right n place hn hp
    rw [wrong_succ] at h1 ⊢
    rw [firstSome_app h1]
    exact h2 _ n place hn hp
  · rcases List.mem_append.mp hr with hr | hr
    · exact h.good r hr
    · exact g2 r hr
theorem Rows.snoc (h : Rows cn ls hn ps deep oft rows k) (r : Row1 cn ls hn ps deep oft row m) : Rows cn ls hn ps deep oft (rows ++ [row]) (k + m) := by
  refine h.app (fun i n place hn hp => ?_) (fun n hn => ?_) (fun x hx => by rw [List.mem_singleton.mp hx]; exact r.good) (by simp only [tupAll, r.tup, Bool.and_self]) (by show wtD row + 0 ≤ 410 * m; have := r.wt; omega)
  · simp only [firstSome]
    rw [r.right n place i hn hp]
  · have := r.cnt n hn
    simp only [cntD, List.map_cons, List.map_nil, List.sum_cons, List.sum_nil, Nat.add_zero]
    exact this
theorem firstSome_shift {cn ls hn : List Str} {n : Nat} {place : List Int} {ps : List (Str × Str)} {oft : Int} : ∀ {rows : List PyData} {i j : Nat}, firstSome (rowF cn ls hn n place ps oft) i rows = none → (∀ (a b : Nat) r, rowF cn ls hn n place ps oft a r = none → rowF cn ls hn n place ps oft b r = none) → firstSome (rowF cn ls hn n place ps oft) j rows = none
  | [], _, _, _, _ => rfl
  | r :: rows, i, j, h, hs => by
    simp only [firstSome] at h ⊢
    cases e : rowF cn ls hn n place ps oft i r with
    | some b => rw [e] at h; cases h
    | none =>
      rw [e] at h
      rw [hs i j r e]
      exact firstSome_shift h hs
theorem Rows.good1 (h : Rows cn ls hn ps deep oft rows k) (l : rows.length ≤ 10000) : Good (.tuple rows) (2 * (10 - deep) + 2) := Good.tup h.good l
/-! ### a row's parts -/
structure PartOk (cn ls hn : List Str) (ps ps' : List (Str × Str)) (deep : Nat) (more : Int) (nm kind : Str) (d : PyData) (k : Nat) : Prop where
  part : isPartD cn ls hn ps kind d = true
  good : Good d (2 * (9 - deep) + 2)
  tup : tupD d = true
  body : kind = "body" → ∃ rows, d = .tuple rows ∧ Rows cn ls hn ps' (deep + 1) more rows k
  none_ : kind ≠ "body" → k = 0
  txt : kind = "scope" ∨ kind = "home" ∨ kind = "entered" → d = .str nm
  wt : wtD d ≤ 130 + 410 * k
inductive Parts (cn ls hn : List Str) (ps ps' : List (Str × Str)) (deep : Nat) (more : Int) (nm : Str) : List Str → List PyData → Nat → Prop
  | nil : Parts cn ls hn ps ps' deep more nm [] [] 0
  | snoc {ks : List Str} {ds : List PyData} {k m : Nat} {kind : Str} {d : PyData} (h : Parts cn ls hn ps ps' deep more nm ks ds k) (p : PartOk cn ls hn ps ps' deep more nm kind d m) : Parts cn ls hn ps ps' deep more nm (ks ++ [kind]) (ds ++ [d]) (k + m)
variable {ps' : List (Str × Str)} {more : Int} {nm z : Str} {ks : List Str} {ds : List PyData}
theorem Parts.len (h : Parts cn ls hn ps ps' deep more nm ks ds k) : ks.length = ds.length := by
  induction h with
  | nil => rfl
  | snoc h p ih => rw [List.length_append, List.length_append, ih]; rfl
theorem zip_snoc {α β : Type} : ∀ {xs : List α} {ys : List β} {a : α} {b : β}, xs.length = ys.length → (xs ++ [a]).zip (ys ++ [b]) = xs.zip ys ++ [(a, b)]
  | [], [], _, _, _ => rfl
  | x :: xs, y :: ys, a, b, h => by
    rw [List.cons_append, List.cons_append, List.zip_cons_cons, zip_snoc (Nat.succ.inj h)]
    rfl
theorem Parts.each (h : Parts cn ls hn ps ps' deep more nm ks ds k) : ∀ q ∈ ks.zip ds, isPartD cn ls hn ps q.1 q.2 = true ∧ Good q.2 (2 * (9 - deep) + 2) ∧ tupD q.2 = true ∧ (q.1 = "scope" ∨ q.1 = "home" ∨ q.1 = "entered" → q.2 = .str nm) := by
  induction h with
  | nil => intro q hq; cases hq
  | snoc h p ih =>
    intro q hq
    rw [zip_snoc h.len] at hq
    rcases List.mem_append.mp hq with hq | hq
    · exact ih q hq
    · rw [List.mem_singleton.mp hq]
      exact ⟨p.part, p.good, p.tup, p.txt⟩
theorem Parts.bods (h : Parts cn ls hn ps ps' deep more nm ks ds k) : (∀ b ∈ bodiesV ks ds, ∃ rows m, b = .tuple rows ∧ Rows cn ls hn ps' (deep + 1) more rows m) ∧ ∀ n : Nat, 10 ≤ n + (deep + 1) → ((bodiesV ks ds).map fun b => cntD (n + 1) (rowsD b)).sum = k := by
  induction h with
  | nil => exact ⟨(fun b hb => by cases hb), fun n _ => rfl⟩
  | @snoc ks ds k m kind d h p ih =>
    rw [bodiesV_snoc _ _ _ _ h.len]
    by_cases hk : kind = "body"
    · obtain ⟨rows, rfl, hr⟩ := p.body hk
      rw [if_pos hk]
      refine ⟨fun b hb => ?_, fun n hn => ?_⟩
      · rcases List.mem_append.mp hb with hb | hb
        · exact ih.1 b hb
        · rw [List.mem_singleton.mp hb]; exact ⟨rows, m, rfl, hr⟩
      · rw [List.map_append, List.sum_append, ih.2 n hn]
        show k + (cntD (n + 1) rows + 0) = k + m
        rw [hr.cnt n hn]
        rfl
    · rw [if_neg hk, List.append_nil, p.none_ hk]
      exact ih
theorem Parts.wt (h : Parts cn ls hn ps ps' deep more nm ks ds k) : wtAll ds ≤ 130 * ds.length + 410 * k := by
  induction h with
  | nil => exact Nat.zero_le _
  | @snoc ks ds k m kind d h p ih =>
    rw [wt_app, List.length_append]
    have := p.wt
    show wtAll ds + (wtD d + 0) ≤ 130 * (ds.length + 1) + 410 * (k + m)
    omega
theorem zip_fst_mem {α β : Type} : ∀ {xs : List α} {ys : List β}, xs.length = ys.length → ∀ y ∈ ys, ∃ x, (x, y) ∈ xs.zip ys
  | [], [], _, y, h => by cases h
  | x :: xs, b :: ys, h, y, hy => by
    rcases List.mem_cons.mp hy with rfl | hy
    · exact ⟨x, List.mem_cons_self ..⟩
    · obtain ⟨u, hu⟩ := zip_fst_mem (Nat.succ.inj h) y hy
      exact ⟨u, List.mem_cons_of_mem _ hu⟩
/-- the row is whole -/
theorem row_done (hk : kindsOf z = some ks) (hz : Low z) (hz6 : z.length ≤ 6) (h : Parts cn ls hn ps ps' deep more nm ks ds k) (ha : arD (.tuple (.str z :: ds)) ps = ps') (ho : oft + oftD (.tuple (.str z :: ds)) = more) (hm : more ≤ 3) (hd : deep ≤ 9) : Row1 cn ls hn ps deep oft (.tuple (.str z :: ds)) (1 + k) := by
  have hl := h.len
  have l3 := kinds_len hk
  have eb : bodiesD (.tuple (.str z :: ds)) = bodiesV ks ds := by simp only [bodiesD, hk]
  have row : isRowD cn ls hn ps (.tuple (.str z :: ds)) = true := by
    simp only [isRowD, hk]
    rw [decide_eq_true hl.symm, Bool.true_and, List.all_eq_true]
    exact fun q hq => (h.each q hq).1
  refine ⟨fun n place i hn hp => ?_, fun n hn => ?_, ?_, ?_, ?_⟩
  · refine rowF_none' (by omega) row (by rw [ho]; exact hm) fun j b e => ?_
    rw [eb] at e
    obtain ⟨rows, m, rfl, hr⟩ := h.bods.1 b (List.mem_of_getElem? e)
    rw [ha, ho]
    obtain ⟨n', rfl⟩ : ∃ n', n = n' + 1 := ⟨n - 1, by omega⟩
    exact hr.right n' _ (by omega) (by simp; omega)
  · rw [eb]
    obtain ⟨n', rfl⟩ : ∃ n', n = n' + 1 := ⟨n - 1, by omega⟩
    rw [h.bods.2 n' (by omega)]
  · refine (Good.tup (n := 2 * (9 - deep) + 2) (fun x hx => ?_) (by rw [List.length_cons]; omega)).mono (by omega)
    rcases List.mem_cons.mp hx with rfl | hx
    · exact Good.str hz _
    · obtain ⟨u, hu⟩ := zip_fst_mem hl x hx
      exact (h.each _ hu).2.1
  · have : ∀ xs : List PyData, (∀ x ∈ xs, tupD x = true) → tupAll xs = true := fun xs => by
      induction xs with
      | nil => intro _; rfl
      | cons x xs ih =>
        intro hx
        simp only [tupAll, Bool.and_eq_true]
        exact ⟨hx x (List.mem_cons_self ..), ih fun y hy => hx y (List.mem_cons_of_mem _ hy)⟩
    show (tupD (.str z) && tupAll ds) = true
    rw [this ds fun x hx => (h.each _ (zip_fst_mem hl x hx).choose_spec).2.2.1]
    rfl
  · have := h.wt
    show 4 + (z.length + 4 + wtAll ds) ≤ 410 * (1 + k)
    omega
end
/-! ### letters and kinds -/
def kindL (z : Str) (c : Nat) : Str :=
  if c = 110 then "name" else if c = 99 then "calc" else if c = 120 then "cell" else if c = 108 then "lock" else if c = 118 then "channel" else if c = 98 then "body"
  else if c = 115 then (if z = "start" then "home" else if z = "off" then "entered" else "scope") else (if z = "rest" then "rest" else if z = "within" then "span" else "times")
/-! ### which words may stand -/
theorem poss_mem {nc nl nh np : Bool} {ps : List (Str × Str)} {z : Str} (h : z ∈ possW nc nl nh np ps) : (∃ ks, kindsOf z = some ks) ∧ Low z ∧ (z = "read" ∨ z = "write" → nc = true) ∧ (z = "hold" → nl = true) ∧ (z = "send" ∨ z = "take" → nh = true) ∧ (z = "off" → np = true) ∧ (z = "start" → nests ps ≠ []) := by
  unfold possW at h
  simp only [List.mem_append] at h
  have pk : ∀ {b : Bool} {zs : List Str}, z ∈ pick b zs → b = true ∧ z ∈ zs := fun {b zs} h => by
    unfold pick at h
    cases b with
    | true => exact ⟨rfl, h⟩
    | false => cases h
  have all : ∀ y ∈ partsL.map (·.1), (∃ ks, kindsOf y = some ks) ∧ Low y := fun y hy => by
    obtain ⟨q, hq, rfl⟩ := List.mem_map.mp hy
    have h1 : ∀ q ∈ partsL, (kindsOf q.1).isSome = true ∧ (decide (q.1.length ≤ 20) && q.1.cps.toList.all isLow) = true := by decide +kernel
    obtain ⟨a, b⟩ := h1 q hq
    exact ⟨Option.isSome_iff_exists.mp a, str_lit b⟩
  rcases h with ((((h | h) | h) | h) | h) | h
  · have m : ∀ y ∈ base11, y ∈ partsL.map (·.1) ∧ y ≠ "read" ∧ y ≠ "write" ∧ y ≠ "hold" ∧ y ≠ "send" ∧ y ≠ "take" ∧ y ≠ "off" ∧ y ≠ "start" := by decide +kernel
    obtain ⟨m0, m1, m2, m3, m4, m5, m6, m7⟩ := m z h
    exact ⟨(all z m0).1, (all z m0).2, fun e => absurd e (by simp [m1, m2]), fun e => absurd e m3, fun e => absurd e (by simp [m4, m5]), fun e => absurd e m6, fun e => absurd e m7⟩
  · obtain ⟨b, h⟩ := pk h
    have m : ∀ y ∈ (["read", "write"] : List Str), y ∈ partsL.map (·.1) ∧ y ≠ "hold" ∧ y ≠ "send" ∧ y ≠ "take" ∧ y ≠ "off" ∧ y ≠ "start" := by decide +kernel
    obtain ⟨m0, m3, m4, m5, m6, m7⟩ := m z h
    exact ⟨(all z m0).1, (all z m0).2, fun _ => b, fun e => absurd e m3, fun e => absurd e (by simp [m4, m5]), fun e => absurd e m6, fun e => absurd e m7⟩
  · obtain ⟨b, h⟩ := pk h
    have m : ∀ y ∈ (["hold"] : List Str), y ∈ partsL.map (·.1) ∧ y ≠ "read" ∧ y ≠ "write" ∧ y ≠ "send" ∧ y ≠ "take" ∧ y ≠ "off" ∧ y ≠ "start" := by decide +kernel
    obtain ⟨m0, m1, m2, m4, m5, m6, m7⟩ := m z h
    exact ⟨(all z m0).1, (all z m0).2, fun e => absurd e (by simp [m1, m2]), fun _ => b, fun e => absurd e (by simp [m4, m5]), fun e => absurd e m6, fun e => absurd e m7⟩
  · obtain ⟨b, h⟩ := pk h
    have m : ∀ y ∈ (["send", "take"] : List Str), y ∈ partsL.map (·.1) ∧ y ≠ "read" ∧ y ≠ "write" ∧ y ≠ "hold" ∧ y ≠ "off" ∧ y ≠ "start" := by decide +kernel
    obtain ⟨m0, m1, m2, m3, m6, m7⟩ := m z h
    exact ⟨(all z m0).1, (all z m0).2, fun e => absurd e (by simp [m1, m2]), fun e => absurd e m3, fun _ => b, fun e => absurd e m6, fun e => absurd e m7⟩
  · obtain ⟨b, h⟩ := pk h
    have m : ∀ y ∈ (["off"] : List Str), y ∈ partsL.map (·.1) ∧ y ≠ "read" ∧ y ≠ "write" ∧ y ≠ "hold" ∧ y ≠ "send" ∧ y ≠ "take" ∧ y ≠ "start" := by decide +kernel
    obtain ⟨m0, m1, m2, m3, m4, m5, m7⟩ := m z h
    exact ⟨(all z m0).1, (all z m0).2, fun e => absurd e (by simp [m1, m2]), fun e => absurd e m3, fun e => absurd e (by simp [m4, m5]), fun _ => b, fun e => absurd e m7⟩
  · obtain ⟨b, h⟩ := pk h
    have m : ∀ y ∈ (["start", "start"] : List Str), y ∈ partsL.map (·.1) ∧ y ≠ "read" ∧ y ≠ "write" ∧ y ≠ "hold" ∧ y ≠ "send" ∧ y ≠ "take" ∧ y ≠ "off" := by decide +kernel
    obtain ⟨m0, m1, m2, m3, m4, m5, m6⟩ := m z h
    exact ⟨(all z m0).1, (all z m0).2, fun e => absurd e (by simp [m1, m2]), fun e => absurd e m3, fun e => absurd e (by simp [m4, m5]), fun e => absurd e m6, fun _ e => by rw [e] at b; cases b⟩
theorem kinds_word {z : Str} {ks : List Str} (h : kindsOf z = some ks) : z.length ≤ 6 := by
  have : ∀ q ∈ partsL, q.1.length ≤ 6 := by decide +kernel
  exact this _ (kindsOf_mem h)
/-! ### what is around within -/
theorem ar_of {z nm : Str} {ps : List (Str × Str)} {ks : List Str} {ds : List PyData} (hk : kindsOf z = some ks) (hl : ks.length = ds.length) (ht : ∀ q ∈ ks.zip ds, (q.1 = "scope" ∨ q.1 = "home" ∨ q.1 = "entered" → q.2 = .str nm)) : arD (.tuple (.str z :: ds)) ps = aroundP z nm nm ps := by
  unfold arD
  show aroundP z (homeD (.tuple (.str z :: ds))) (lastD (.tuple (.str z :: ds))) ps = _
  unfold aroundP
  by_cases h1 : z = "start"
  · subst h1
    rw [if_pos rfl, if_pos rfl]
    rw [kinds_start] at hk
    cases hk
    match ds, hl with
    | [a, b], _ =>
      have := ht ("home", a) (List.mem_cons_self ..) (.inr (.inl rfl))
      dsimp only at this
      subst this
      rfl
  · rw [if_neg h1, if_neg h1]
    by_cases h2 : z = "nest"
    · subst h2
      rw [if_pos (.inl rfl), if_pos (.inl rfl)]
      rw [kinds_nest] at hk
      cases hk
      match ds, hl with
      | [a, b], _ =>
        have := ht ("scope", a) (List.mem_cons_self ..) (.inl rfl)
        dsimp only at this
        subst this
        rfl
    · by_cases h3 : z = "within"
      · subst h3
        rw [if_pos (.inr rfl), if_pos (.inr rfl)]
        rw [kinds_within] at hk
        cases hk
        match ds, hl with
        | [t, a, b], _ =>
          have := ht ("scope", a) (List.mem_cons_of_mem _ (List.mem_cons_self ..)) (.inl rfl)
          dsimp only at this
          subst this
          rfl
      · rw [if_neg (fun h => h.elim h2 h3), if_neg (fun h => h.elim h2 h3)]
/-! ### a row -/
/-- the name told, and what is around within -/
structure Named (ps ps' : List (Str × Str)) (z nm : Str) : Prop where
  own : z = "nest" ∨ z = "within" → isNameL nm = true ∧ nm ∉ ps.map (·.1)
  off : z = "off" → nm ∈ ps.map (·.1)
  home : z = "start" → (nm, ("nest" : Str)) ∈ ps
  ar : aroundP z nm nm ps = ps'
section
variable {P : Program} {w : World} {K : PySem.W.Frag} {mg : Str → Option Value} {base : Heap}
/-- where it may be started or called off -/
def hcd (z : Str) (ps : List (Str × Str)) (k : Nat) : Bool := decide (z = "off") || decide ((ps[k]?).map (·.2) = some ("nest" : Str))
def homes (z : Str) (ps : List (Str × Str)) (i : Nat) : List Nat := (List.range i).filter (hcd z ps)
theorem dpAll_take {K : PySem.W.Frag} {H : Hp} : ∀ {n : Nat} {vs : List V} {xs : List PyData}, DpAll K H vs xs → DpAll K H (vs.take n) (xs.take n)
  | 0, _, _, _ => .nil
  | n + 1, _, _, .nil => .nil
  | n + 1, _, _, .cons a b => .cons a (dpAll_take b)
theorem idx_nd {l : List Str} (h : l.Nodup) {k : Nat} (hk : k < l.length) : l.idxOf l[k] = k := by
  have m : l[k] ∈ l := List.getElem_mem hk
  have l1 : l.idxOf l[k] < l.length := List.idxOf_lt_length_of_mem m
  have e1 : l[l.idxOf l[k]] = l[k] := List.getElem_idxOf l1
  rcases Nat.lt_trichotomy (l.idxOf l[k]) k with h1 | h1 | h1
  · exact absurd e1 (List.pairwise_iff_getElem.mp h _ _ l1 hk h1)
  · exact h1
  · exact absurd e1.symm (List.pairwise_iff_getElem.mp h _ _ hk l1 h1)
def yspare : List Str := ["ya", "yb", "yc", "yd", "ye", "yf", "yg", "yh", "yi", "yj"]
theorem yspare_names : ∀ z ∈ yspare, isNameL z = true := by decide +kernel
theorem yspare_nodup : yspare.Nodup := by decide +kernel
/-! ### the loop over the parts -/
theorem Parts.tup {cn ls hn : List Str} {ps ps' : List (Str × Str)} {deep k : Nat} {more : Int} {nm : Str} {ks : List Str} {ds : List PyData} (h : Parts cn ls hn ps ps' deep more nm ks ds k) : tupAll ds = true := by
  induction h with
  | nil => rfl
  | snoc h p ih => exact tupAll_app ih (by simp only [tupAll, p.tup, Bool.and_self])
variable {H0 H H' : Hp} {d g c pl C L Ch W rp : Addr} {cs : List (Str × Int)} {ls : List Str} {hs : List (Str × Int)} {ws : List Str} {ps ps' : List (Str × Str)} {deep : Nat} {more : Int} {nm z s : Str} {i k k' m m' : Nat} {vs : List V} {ds : List PyData} {v : V} {x : PyData}
end
/-! ### parts -/
section
variable {cs ls hs : List Str} {ps ps' : List (Str × Str)} {deep : Nat} {more : Int} {nm z kind : Str} {d : PyData}
theorem PartOk.leaf (h : isPartD cs ls hs ps kind d = true) (g : Good d 2) (t : tupD d = true) (hw : wtD d ≤ 130) (hb : kind ≠ "body") (ht : kind = "scope" ∨ kind = "home" ∨ kind = "entered" → d = .str nm) : PartOk cs ls hs ps ps' deep more nm kind d 0 :=
  ⟨h, g.mono (by omega), t, fun e => absurd e hb, fun _ => rfl, ht, hw⟩
theorem mergeZ_new : ∀ (ps acc : List (Str × Str)), ((acc ++ ps).map (·.1)).Nodup → mergeZ acc ps = acc ++ ps
  | [], acc, _ => by rw [List.append_nil]; rfl
  | p :: ps, acc, h => by
    have e : putZ acc p.1 p.2 = acc ++ [p] := by
      unfold putZ
      rw [if_neg]
      intro ha
      obtain ⟨q, hq, hqp⟩ := List.any_eq_true.mp ha
      rw [List.map_append, List.nodup_append] at h
      exact h.2.2 q.1 (List.mem_map.mpr ⟨q, hq, rfl⟩) p.1 (by rw [List.map_cons]; exact List.mem_cons_self ..) (of_decide_eq_true hqp)
    show mergeZ (putZ acc p.1 p.2) ps = _
    rw [e, mergeZ_new ps (acc ++ [p]) (by rw [List.append_assoc]; exact h), List.append_assoc]
    rfl
theorem look_in (h : PsOk ps) {w : Str} (hm : (z, w) ∈ ps) : lookW ps z = some w := by
  unfold lookW
  rw [mergeZ_new ps [] h.nd, List.nil_append]
  exact (lookS_mem h.nd).mpr hm
theorem part_hm (h : PsOk ps) (hm : (z, ("nest" : Str)) ∈ ps) : isPartD cs ls hs ps "home" (.str z) = true := by
  show (isNameL z && decide (lookW ps z = some ("nest" : Str))) = true
  rw [h.names _ hm, look_in h hm]
  rfl
theorem part_of (h : PsOk ps) (hm : z ∈ ps.map (·.1)) : isPartD cs ls hs ps "entered" (.str z) = true := by
  obtain ⟨q, hq, rfl⟩ := List.mem_map.mp hm
  show (isNameL q.1 && (decide (("entered" : Str) = "name") || decide ((lookW ps q.1).isSome = decide (("entered" : Str) = "entered")))) = true
  rw [h.names _ hq, look_in h (w := q.2) hq]
  rfl
theorem part_cell (h : isNameL z = true) (hm : z ∈ cs) : isPartD cs ls hs ps "cell" (.str z) = true := by
  show (isNameL z && decide (z ∈ cs)) = true
  rw [h, decide_eq_true hm]
  rfl
theorem part_lock (h : isNameL z = true) (hm : z ∈ ls) : isPartD cs ls hs ps "lock" (.str z) = true := by
  show (isNameL z && decide (z ∈ ls)) = true
  rw [h, decide_eq_true hm]
  rfl
theorem part_lane (h : isNameL z = true) (hm : z ∈ hs) : isPartD cs ls hs ps "channel" (.str z) = true := by
  show (isNameL z && decide (z ∈ hs)) = true
  rw [h, decide_eq_true hm]
  rfl
theorem part_rng {lo hi i : Int} (hr : rangeOf kind = some (lo, hi)) (h1 : kind ≠ "calc") (h2 : kind ≠ "body") (h3 : lo ≤ i) (h4 : i ≤ hi) : isPartD cs ls hs ps kind (.int i) = true := by
  unfold isPartD
  rw [if_neg h1, if_neg h2, hr]
  show (decide (lo ≤ i) && decide (i ≤ hi)) = true
  rw [decide_eq_true h3, decide_eq_true h4]
  rfl
end
section
variable {P : Program} {w : World} {K : PySem.W.Frag} {mg : Str → Option Value} {base : Heap}
def xlvD : List (Str × Str) := [("x", "cells"), ("l", "locks"), ("v", "channels")]
theorem xlv_x {H : Hp} {e : Addr} (h : H e = some (.dK (dz xlvD))) : DGet H e (.str ⟨#[120]⟩) (some (.str "cells")) := .inl ⟨_, Sum.inr ⟨#[120]⟩, .inl h, rfl, by rw [lookS_val, show lookS xlvD ⟨#[120]⟩ = some ("cells" : Str) by decide +kernel]; rfl⟩
theorem xlv_l {H : Hp} {e : Addr} (h : H e = some (.dK (dz xlvD))) : DGet H e (.str ⟨#[108]⟩) (some (.str "locks")) := .inl ⟨_, Sum.inr ⟨#[108]⟩, .inl h, rfl, by rw [lookS_val, show lookS xlvD ⟨#[108]⟩ = some ("locks" : Str) by decide +kernel]; rfl⟩
theorem xlv_v {H : Hp} {e : Addr} (h : H e = some (.dK (dz xlvD))) : DGet H e (.str ⟨#[118]⟩) (some (.str "channels")) := .inl ⟨_, Sum.inr ⟨#[118]⟩, .inl h, rfl, by rw [lookS_val, show lookS xlvD ⟨#[118]⟩ = some ("channels" : Str) by decide +kernel]; rfl⟩
end
/-! ### a body -/
section
variable {P : Program} {w : World} {K : PySem.W.Frag} {mg : Str → Option Value} {base : Heap}
end
/-! ### a right program -/
theorem firstSome_imp {α β γ : Type} {f : Nat → α → Option β} {f2 : Nat → α → Option γ} : ∀ {xs : List α} {i i2 : Nat}, (∀ a b x, f a x = none → f2 b x = none) → firstSome f i xs = none → firstSome f2 i2 xs = none
  | [], _, _, _, _ => rfl
  | x :: xs, i, i2, hs, h => by
    simp only [firstSome] at h ⊢
    cases e : f i x with
    | some b => rw [e] at h; cases h
    | none =>
      rw [e] at h
      rw [hs i i2 x e]
      exact firstSome_imp hs h
theorem firstSome_imp0 {α β γ : Type} {f : Nat → α → Option β} {f2 : Nat → α → Option γ} : ∀ {xs : List α} {i : Nat}, (∀ a x, f a x = none → f2 a x = none) → firstSome f i xs = none → firstSome f2 i xs = none
  | [], _, _, _ => rfl
  | x :: xs, i, hs, h => by
    simp only [firstSome] at h ⊢
    cases e : f i x with
    | some b => rw [e] at h; cases h
    | none =>
      rw [e] at h
      rw [hs i x e]
      exact firstSome_imp0 hs h
/-- whether rows are right does not hang on where they stand -/
theorem wrong_place {cs ls hs : List Str} : ∀ (n : Nat) (rows : List PyData) (pl pl' : List Int) (ps : List (Str × Str)) (oft : Int), pl.length = pl'.length → wrongD cs ls hs n rows pl ps oft = none → wrongD cs ls hs n rows pl' ps oft = none
  | 0, _, _, _, _, _, _, _ => rfl
  | n + 1, rows, pl, pl', ps, oft, hl, h => by
    rw [wrong_succ] at h ⊢
    refine firstSome_imp (fun a b r e => ?_) h
    unfold rowF at e ⊢
    rw [← hl]
    split at e
    · cases e
    · rename_i h1
      rw [if_neg h1]
      split at e
      · cases e
      · rename_i h2
        rw [if_neg h2]
        exact firstSome_imp0 (fun j bd e => wrong_place n _ _ _ _ _ (by simp [hl]) e) e
theorem row_place {cs ls hs : List Str} {n : Nat} {pl : List Int} {ps : List (Str × Str)} {oft : Int} {a b : Nat} {r : PyData} (e : rowF cs ls hs n pl ps oft a r = none) : rowF cs ls hs n pl ps oft b r = none := by
  unfold rowF at e ⊢
  split at e
  · cases e
  · rename_i h1
    rw [if_neg h1]
    split at e
    · cases e
    · rename_i h2
      rw [if_neg h2]
      exact firstSome_imp0 (fun j bd e => wrong_place n _ _ _ _ _ (by simp) e) e
theorem Rows.cat {cn ls hn : List Str} {ps : List (Str × Str)} {deep k m : Nat} {oft : Int} {rows rows2 : List PyData} (h : Rows cn ls hn ps deep oft rows k) (h2 : Rows cn ls hn ps deep oft rows2 m) : Rows cn ls hn ps deep oft (rows ++ rows2) (k + m) :=
  h.app (fun i n place hn hp => by
    have := h2.right n place hn hp
    rw [wrong_succ] at this
    exact firstSome_shift this fun _ _ _ e => row_place e) h2.cnt h2.good h2.tup h2.wt
section
variable {P : Program} {w : World} {K : PySem.W.Frag} {mg : Str → Option Value} {base : Heap}
end
end TP
namespace TP
open PySem PySem.Spec PyProof.Rows L2 HX HB HG HU HH HD HS HV HQ HK HN HJ TL HM
abbrev drL (g c : Addr) (r t : Int) : List (Key × V) := [(Sum.inr "great", .ref g), (Sum.inr "rest", .int r), (Sum.inr "cells", .ref c), (Sum.inr "turn", .int t)]
abbrev drO (g c : Addr) (r t : Int) : HO := .dK (drL g c r t)
structure Dr (H : Hp) (d g c : Addr) : Prop where
  ex : ∃ (gs cs : List Int) (r t : Int), H d = some (drO g c r t) ∧ H g = some (.lst (gs.map V.int)) ∧ H c = some (.lst (cs.map V.int)) ∧ cs ≠ [] ∧ gs.length ≤ 1000 ∧ cs.length ≤ 1000 ∧ g ≠ c
def Up (d g : Addr) (H H' : Hp) : Prop := ∀ b o, H b = some o → b ≠ d → b ≠ g → H' b = some o
section
variable {d g c : Addr} {H H' H'' : Hp} {K : PySem.W.Frag}
theorem Up.refl (H : Hp) : Up d g H H := fun _ _ h _ _ => h
theorem Up.trans (a : Up d g H H') (b : Up d g H' H'') : Up d g H H'' := fun x o h h1 h2 => b x o (a x o h h1 h2) h1 h2
theorem Up.of (s : Same H H') : Up d g H H' := fun b o h _ _ => s b o h
theorem Up.set (u : Up d g H H') {b : Addr} {o : HO} (hb : b = d ∨ b = g) : Up d g H (upd H' b o) := fun x y h h1 h2 => by
  rw [upd_ne (by rintro rfl; exact hb.elim h1 h2)]
  exact u x y h h1 h2
theorem Dr.same (D : Dr H d g c) (s : Same H H') : Dr H' d g c := by
  obtain ⟨gs, cs, r, t, h1, h2, h3, h4⟩ := D.ex
  exact ⟨gs, cs, r, t, s _ _ h1, s _ _ h2, s _ _ h3, h4⟩
theorem Dr.set (D : Dr H d g c) {b : Addr} {o : HO} (hd : b ≠ d) (hg : b ≠ g) (hc : b ≠ c) : Dr (upd H b o) d g c := by
  obtain ⟨gs, cs, r, t, h1, h2, h3, h4⟩ := D.ex
  exact ⟨gs, cs, r, t, by rw [upd_ne hd.symm]; exact h1, by rw [upd_ne hg.symm]; exact h2, by rw [upd_ne hc.symm]; exact h3, h4⟩
theorem Dr.apart (D : Dr H d g c) {b : Addr} (n : H b = none) : b ≠ d ∧ b ≠ g ∧ b ≠ c := by
  obtain ⟨gs, cs, r, t, h1, h2, h3, h4⟩ := D.ex
  exact ⟨(ne_of_none h1 n).symm, (ne_of_none h2 n).symm, (ne_of_none h3 n).symm⟩
theorem Up.own (u : Up d g H H') {b : Addr} {o : HO} (n : H b = none) : Up d g H (upd H' b o) := fun x y h h1 h2 => by
  rw [upd_ne (ne_of_none h n)]
  exact u x y h h1 h2
theorem Up.sqt (u : Up d g H H') (D : Dr H d g c) {a : Addr} {xs : List V} (h : SqT K H a xs) : SqT K H' a xs := by
  obtain ⟨gs, cs, r, t, h1, h2, _⟩ := D.ex
  rcases h with (h | ⟨o, h⟩) | h
  · exact .inl (.inl (u _ _ h (ne_of h h1 (by intro z; cases z)) (ne_of h h2 (by intro z; cases z))))
  · exact .inl (.inr ⟨o, u _ _ h (ne_of h h1 (by intro z; cases z)) (ne_of h h2 (by intro z; cases z))⟩)
  · exact .inr h
end
theorem put_rest (g c : Addr) (r t v : Int) : putK (drL g c r t) (Sum.inr "rest") (.int v) = drL g c v t := rfl
theorem put_turn (g c : Addr) (r t v : Int) : putK (drL g c r t) (Sum.inr "turn") (.int v) = drL g c r v := rfl
theorem val_great (g c : Addr) (r t : Int) : valV (drL g c r t) (Sum.inr "great") = some (.ref g) := rfl
theorem val_rest (g c : Addr) (r t : Int) : valV (drL g c r t) (Sum.inr "rest") = some (.int r) := rfl
theorem val_cells (g c : Addr) (r t : Int) : valV (drL g c r t) (Sum.inr "cells") = some (.ref c) := rfl
theorem val_turn (g c : Addr) (r t : Int) : valV (drL g c r t) (Sum.inr "turn") = some (.int t) := rfl
theorem dr_lt (g c : Addr) (r t : Int) : (drL g c r t).length < sizeLine := by show 4 < sizeLine; decide
section
variable {P : Program} {w : World} {K : PySem.W.Frag} {mg : Str → Option Value} {base : Heap}
def spNext : Sp := fun vs H Q _ => ∃ (d g c : Addr) (n : Int), vs = [.ref d, .int n] ∧ Dr H d g c ∧ 0 < n ∧ n ≤ 10 ^ 13 ∧ ∀ r H', 0 ≤ r → r < n → Dr H' d g c → Up d g H H' → Q (.int r) H'
theorem ok_next (T : Tp K w mg) : FnOk P w K mg base CX0 1 T.f_next T.fd_next ["_law_draw", "_law_size"] spNext := by
  refine T.D_next.F.ok sc_next (fun vs H Q E h => ?_) (fun cdv A outer s H vs Q E hr h => ?_)
  · obtain ⟨d, g, c, n, rfl, _⟩ := h
    rfl
  · obtain ⟨d, g, c, n, rfl, D, n0, n1, q⟩ := h
    have hu := hu_of hr
    refine ⟨_, (Evl.pss_cut (ps_if (PW.pt (pw_and (pt_cmpR op_lt (pe_dget hu (pv 0) pe_str (fun _ _ => rfl)) pe_int (nomark _)) (pw_and1 (pt_cmpR (op_neD hr.units) (pe_dget hu (pv 0) pe_str (fun _ _ => rfl)) (pe_lst pa_nil) (nomark _)))))
  (pss_one (ps_dput hu (pv 0) pe_str (pe_bm PySem.F.plainAttrs_list PySem.F.slot_list_pop PySem.F.type_list_pop mt_popAt (pe_dget hu (pv 0) pe_str (fun _ _ => rfl)) (pa_cons pe_int pa_nil)) rfl))
  pss_nil)
  (pss_cons (ps_if (pt_cmpR op_gt (pe_dget hu (pv 0) pe_str (fun _ _ => rfl)) pe_int (nomark _))
  (pss_cons (ps_set (i := 2) sc_next.nd rfl (.inl rfl) (pe_op op_modN (pe_dget hu (pv 0) pe_str (fun _ _ => rfl)) (pv 1)))
  (pss_cons (ps_dput hu (pv 0) pe_str (pe_op op_fdivW (pe_dget hu (pv 0) pe_str (fun _ _ => rfl)) (pv 1)) rfl)
  (pss_one (ps_ret (pv 2)))))
  pss_nil)
  (pss_cons (ps_par (i := 3) (j := 4) rfl sc_next.nd rfl rfl (by decide) rfl rfl (pa_cons (pe_dget hu (pv 0) pe_str (fun _ _ => rfl)) (pa_cons (pe_dget hu (pv 0) pe_str (fun _ _ => rfl)) pa_nil)) (by rfl))
  (pss_cons (ps_dput hu (pv 0) pe_str (pe_op op_add (pv 3) pe_int) rfl)
  (pss_cons (ps_set (i := 5) sc_next.nd rfl (.inl rfl) (pe_op op_mod (pe_op op_mul (pe_op op_add (pe_op op_add (pe_ix ix_list (pv 4) (pe_op op_modN (pv 3) (pe_callB call_len_seq (by rfl) T.len PySem.boot_len (pa_cons (pv 4) pa_nil))) (fun _ _ => rfl)) (pe_op op_mul pe_int (pv 3))) pe_int) pe_int) pe_int))
  (pss_cons (ps_set (i := 6) sc_next.nd rfl (.inl rfl) (pe_ix ix_list (pe_lst (pa_cons pe_int (pa_cons pe_int (pa_cons pe_int (pa_cons pe_int (pa_cons pe_int pa_nil)))))) (pe_op op_mod (pv 3) pe_int) (fun _ _ => rfl)))
  (pss_one (ps_ret (pe_op op_modN (pe_op op_fdiv (pe_op op_modN (pe_op op_mul (pv 5) (pe_op op_add (pe_op op_add (pv 5) (pe_op op_mul pe_int (pv 3))) pe_int)) (pv 6)) pe_int) (pv 1)))))))))), ?_⟩
    have hdiv : CDivW 0 n := wide_div n0 (b := 50) (by omega) (by decide) (by decide)
    refine ⟨fun σ H' => (∃ y2 y3 y4 y5 y6, σ = [some (.ref d), some (.int n), y2, y3, y4, y5, y6]) ∧ Dr H' d g c ∧ Up d g H H', ?_, ?_⟩
    · obtain ⟨gs, cs, r, t, h1, h2, h3, h4, h5, h6, h7⟩ := D.ex
      have gd : g ≠ d := ne_of h2 h1 (by intro z; cases z)
      have cd : c ≠ d := ne_of h3 h1 (by intro z; cases z)
      have stay : ∃ y2 y3 y4 y5 y6, start ["_law_draw", "_law_size", "_law_number", "_law_turn", "_law_stock", "_law_made", "_law_prime"] [.ref d, .int n] = [some (.ref d), some (.int n), y2, y3, y4, y5, y6] := ⟨_, _, _, _, _, rfl⟩
      refine ⟨_, rfl, d, _, rfl, DGet.k (k := Sum.inr "rest") h1, _, _, rfl, rfl, _, rfl, ite2 (fun _ => ?_) (fun _ => ⟨stay, D, Up.refl H⟩)⟩
      refine ⟨_, rfl, d, _, rfl, DGet.k (k := Sum.inr "great") h1, (by decide), fun e ne => ?_⟩
      have se : Same H (upd H e (.lst [])) := same_upd ne
      have hee : (upd H e (.lst [])) e = some (.lst []) := upd_same
      generalize upd H e (.lst []) = H1 at se hee ⊢
      refine ⟨.list (gs.map .int), .list [], .lst (sl (se _ _ h2)) (dp_ints gs), .lst (sl hee) .nil, ints_shaped gs, rfl, _, rfl, ?_⟩
      cases gs with
      | nil => exact ⟨stay, D.same se, Up.of se⟩
      | cons x gs =>
        refine ite1 rfl ?_
        refine ⟨_, rfl, d, _, rfl, DGet.k (k := Sum.inr "great") (se _ _ h1), ?_⟩
        refine ⟨.inl ⟨rfl, _, sl (se _ _ h2)⟩, g, _, 0, 0, _, rfl, rfl, se _ _ h2, by decide, by decide, seq0 _, rfl, ?_⟩
        refine ⟨_, rfl, d, _, rfl, DPut.k (k := Sum.inr "rest") (by rw [upd_ne gd.symm]; exact se _ _ h1) (dr_lt g c r t), ?_⟩
        refine ⟨stay, ⟨gs, cs, x, t, by rw [upd_same, put_rest], ?_, ?_, h4, by simp only [List.length_cons] at h5; omega, h6, h7⟩, ((Up.of se).set (.inr rfl)).set (.inl rfl)⟩
        · rw [upd_ne gd, upd_same]; rfl
        · rw [upd_ne cd, upd_ne h7.symm]; exact se _ _ h3
    · rintro σ H1 ⟨⟨y2, y3, y4, y5, y6, rfl⟩, D1, u1⟩
      obtain ⟨gs, cs, r, t, h1, h2, h3, h4, h5, h6, h7⟩ := id D1
      have gd : g ≠ d := ne_of h2 h1 (by intro z; cases z)
      have cd : c ≠ d := ne_of h3 h1 (by intro z; cases z)
      have put : ∀ r' t' H2, H2 = upd H1 d (drO g c r' t') → Dr H2 d g c ∧ Up d g H H2 := fun r' t' H2 e => by
        subst e
        refine ⟨⟨gs, cs, r', t', upd_same, by rw [upd_ne gd]; exact h2, by rw [upd_ne cd]; exact h3, h4, h5, h6, h7⟩, u1.set (.inl rfl)⟩
      refine ⟨_, rfl, d, _, rfl, DGet.k (k := Sum.inr "rest") h1, _, _, rfl, rfl, _, rfl, ite2 (fun _ => ?_) (fun _ => ?_)⟩
      · refine ⟨_, rfl, d, _, rfl, DGet.k (k := Sum.inr "rest") h1, _, rfl, _, _, rfl, rfl, (by omega), ?_⟩
        refine ⟨_, rfl, d, _, rfl, DGet.k (k := Sum.inr "rest") h1, _, rfl, _, _, rfl, rfl, hdiv, _, rfl, d, _, rfl, DPut.k (k := Sum.inr "rest") h1 (dr_lt g c r t), ?_⟩
        obtain ⟨D2, u2⟩ := put (r / n) t _ rfl
        exact ⟨_, rfl, q _ _ (Int.fmod_nonneg_of_pos _ n0) (Int.fmod_lt_of_pos _ n0) D2 u2⟩
      · refine ⟨_, rfl, d, _, rfl, DGet.k (k := Sum.inr "turn") h1, _, rfl, d, _, rfl, DGet.k (k := Sum.inr "cells") h1, _, _, rfl, ?_⟩
        refine ⟨_, rfl, _, _, rfl, rfl, _, rfl, d, _, rfl, DPut.k (k := Sum.inr "turn") h1 (dr_lt g c r t), ?_⟩
        obtain ⟨D2, u2⟩ := put r (t + 1) (upd H1 d (.dK (putK (drL g c r t) (Sum.inr "turn") (.int (t + 1))))) rfl
        have h3' : (upd H1 d (.dK (putK (drL g c r t) (Sum.inr "turn") (.int (t + 1))))) c = some (.lst (cs.map V.int)) := by rw [upd_ne cd]; exact h3
        show tSeq _ _ _ _ (upd H1 d (.dK (putK (drL g c r t) (Sum.inr "turn") (.int (t + 1)))))
        generalize upd H1 d (.dK (putK (drL g c r t) (Sum.inr "turn") (.int (t + 1)))) = H2 at D2 u2 h3' ⊢
        have lp : 0 < cs.length := List.length_pos_iff.mpr h4
        obtain ⟨j, hj, ej⟩ : ∃ j : Nat, j < cs.length ∧ t.fmod (((cs.map V.int).length : Nat) : Int) = (j : Int) := by
          have a1 := Int.fmod_nonneg_of_pos t (show (0 : Int) < (((cs.map V.int).length : Nat) : Int) by rw [List.length_map]; omega)
          have a2 := Int.fmod_lt_of_pos t (show (0 : Int) < (((cs.map V.int).length : Nat) : Int) by rw [List.length_map]; omega)
          rw [List.length_map] at a1 a2
          exact ⟨(t.fmod (cs.length : Nat)).toNat, by omega, by rw [List.length_map]; omega⟩
        -- made
        refine ⟨_, rfl, _, rfl, _, rfl, c, _, rfl, .inl (sl h3'), _, _, rfl, rfl, (by rw [List.length_map]; omega), c, _, _, _, rfl, rfl, sl h3', by rw [ej]; exact atI_nat (by rw [List.getElem?_map, List.getElem?_eq_getElem hj]; rfl), ?_⟩
        refine ⟨_, rfl, _, _, rfl, rfl, .inl ⟨by decide, by decide⟩, _, _, rfl, rfl, _, _, rfl, rfl, _, _, rfl, rfl, .inr ⟨by decide, by decide⟩, _, _, rfl, rfl, (by show (0 : Int) < 2147483647; decide), ?_⟩
        generalize em : (cs[j] + 1299721 * t + 7919) * 48271 % 2147483647 = m
        have m0 : 0 ≤ m ∧ m < 2147483647 := by rw [← em]; exact ⟨Int.emod_nonneg _ (by decide), Int.emod_lt_of_pos _ (by decide)⟩
        -- prime
        refine ⟨by show 5 ≤ sizeLine; decide, fun e ne => ?_⟩
        have se : Same H2 (upd H2 e (.lst [.int 2147483629, .int 2147483587, .int 2147483579, .int 2147483563, .int 2147483549])) := same_upd ne
        have hee : (upd H2 e (.lst [.int 2147483629, .int 2147483587, .int 2147483579, .int 2147483563, .int 2147483549])) e = some (.lst [.int 2147483629, .int 2147483587, .int 2147483579, .int 2147483563, .int 2147483549]) := upd_same
        generalize upd H2 e (.lst [.int 2147483629, .int 2147483587, .int 2147483579, .int 2147483563, .int 2147483549]) = H3 at se hee ⊢
        obtain ⟨p, hp, p0⟩ : ∃ p : Int, atI [V.int 2147483629, .int 2147483587, .int 2147483579, .int 2147483563, .int 2147483549] (t % 5) = some (.int p) ∧ 0 < p := by
          have a1 := Int.emod_nonneg t (show (5 : Int) ≠ 0 by decide)
          have a2 := Int.emod_lt_of_pos t (show (0 : Int) < 5 by decide)
          rcases (by omega : t % 5 = 0 ∨ t % 5 = 1 ∨ t % 5 = 2 ∨ t % 5 = 3 ∨ t % 5 = 4) with z | z | z | z | z <;> rw [z]
          · exact ⟨_, atI_nat (j := 0) rfl, by decide⟩
          · exact ⟨_, atI_nat (j := 1) rfl, by decide⟩
          · exact ⟨_, atI_nat (j := 2) rfl, by decide⟩
          · exact ⟨_, atI_nat (j := 3) rfl, by decide⟩
          · exact ⟨_, atI_nat (j := 4) rfl, by decide⟩
        refine ⟨_, rfl, _, _, rfl, rfl, (by show (0 : Int) < 5; decide), e, _, _, _, rfl, rfl, sl hee, hp, ?_⟩
        -- the end
        refine ⟨_, rfl, _, rfl, _, rfl, _, _, rfl, rfl, .inl ⟨by decide, by decide⟩, _, _, rfl, rfl, _, _, rfl, rfl, _, _, rfl, rfl, .inl ⟨by omega, by omega⟩, _, rfl, _, _, rfl, rfl, (by omega), _, _, rfl, rfl, ⟨by decide, by decide⟩, _, rfl, _, _, rfl, rfl, (by omega), ?_⟩
        exact q _ _ (Int.fmod_nonneg_of_pos _ n0) (Int.fmod_lt_of_pos _ n0) (D2.same se) (u2.trans (Up.of se))
def spBegun (K : PySem.W.Frag) : Sp := fun vs H Q _ => ∃ (a : Addr) (ns : List Int), vs = [.ref a] ∧ SqL K H a (ns.map V.int) ∧ ns.length ≤ 63 ∧ ∀ d g c H', Same H H' → H d = none → H g = none → Dr H' d g c → Q (.ref d) H'
theorem ok_begun (T : Tp K w mg) : FnOk P w K mg base CX0 1 T.f_begun T.fd_begun ["_law_script"] (spBegun K) := by
  refine T.D_begun.F.ok sc_begun (fun vs H Q E h => ?_) (fun cdv A outer s H vs Q E hr h => ?_)
  · obtain ⟨a, ns, rfl, _⟩ := h
    rfl
  · obtain ⟨a, ns, rfl, hS, hl, q⟩ := h
    refine ⟨_, (pss_cons (ps_setLc (i := 1) (own := [("_law_cell", 2)]) (g := gName 2) (by rfl) sc_begun.nd rfl rfl (sw_true rfl rfl rfl (by decide +kernel)) (pi_list (pv 0)) (blkOk_by (own := [("_law_cell", 2)]) (N := ["_law_script", "_law_great", "_law_cell"]) (sc := defScope s_begun) (by decide +kernel)) (fun _ _ _ _ _ => (pg_name (i := 2) sc_begun.nd rfl (.inl rfl))) (fun _ _ _ _ _ => (pts_one (pt_cmpR op_ge (pv 2) (pe_op op_pow pe_int pe_int) (nomark _)))) (fun _ _ _ _ _ => (pv 2)))
  (pss_one (ps_ret (pe_disp (pps_cons pe_str (pv 1) (pps_cons pe_str pe_int (pps_cons pe_str (pe_op op_cat (pe_callTy call_list_of (by rfl) T.list (by decide +kernel) (pa_cons (pv 0) pa_nil)) (pe_lst (pa_cons (pe_op op_add (pe_callB call_len_seq (by rfl) T.len PySem.boot_len (pa_cons (pv 0) pa_nil)) pe_int) pa_nil))) (pps_cons pe_str pe_int pps_nil)))) (by rfl) (by rfl) (fun z => by cases z) (by decide))))), ?_⟩
    refine ⟨_, rfl, a, rfl, ⟨_, hS⟩, fun g ng => lc_it walk_list (fun i H2 => Same H H2 ∧ ∃ gs : List Int, H2 g = some (.lst (gs.map V.int)) ∧ gs.length ≤ i) ⟨same_upd ng, [], upd_same, Nat.le_refl _⟩ (fun i H2 _ z => z.1.seq hS) ?_ ?_⟩
    · rintro i x H2 H3 hi ⟨sm, gs, hg, hz⟩ ⟨rfl, hx⟩
      rw [List.length_map] at hi
      rw [List.getElem?_map, List.getElem?_eq_getElem hi] at hx
      cases hx
      refine ⟨rfl, _, rfl, _, _, rfl, rfl, ⟨by decide, by decide, by decide⟩, _, _, rfl, rfl, _, rfl, ite2 (fun _ => ?_) (fun _ => ?_)⟩
      · refine ⟨_, rfl, _, hg, by rw [List.length_map]; exact small1000 (by omega), sm.own ng, gs ++ [ns[i]], by rw [upd_same, List.map_append]; rfl, by rw [List.length_append]; show gs.length + 1 ≤ i + 1; omega⟩
      · exact ⟨sm, gs, hg, by omega⟩
    · rintro H2 ⟨sm, gs, hg, hz⟩
      rw [List.length_map] at hz
      refine fun d nd => ?_
      have s1 : Same H (upd H2 d (.dK [])) := sm.trans (same_upd nd)
      have hd : (upd H2 d (.dK [])) d = some (.dK []) := upd_same
      have hg1 : (upd H2 d (.dK [])) g = some (.lst (gs.map V.int)) := same_upd nd _ _ hg
      generalize upd H2 d (.dK []) = H3 at s1 hd hg1 ⊢
      refine ⟨_, rfl, _, rfl, a, _, rfl, .inl (s1.seq hS), fun l nl => ?_⟩
      have s2 := same_upd (o := .lst (ns.map V.int)) nl
      have hl2 : (upd H3 l (.lst (ns.map V.int))) l = some (.lst (ns.map V.int)) := upd_same
      generalize upd H3 l (.lst (ns.map V.int)) = H4 at s2 hl2 ⊢
      refine ⟨_, rfl, a, _, rfl, .inl ((s1.trans s2).seq hS), _, _, rfl, rfl, (by show 1 ≤ sizeLine; decide), fun m nm => ?_⟩
      have s3 := same_upd (o := .lst [.int ((((ns.map V.int).length : Nat) : Int) + 5)]) nm
      have hm3 : (upd H4 m (.lst [.int ((((ns.map V.int).length : Nat) : Int) + 5)])) m = some (.lst [.int ((((ns.map V.int).length : Nat) : Int) + 5)]) := upd_same
      refine ⟨l, m, _, _, rfl, rfl, s3 _ _ hl2, hm3, Nat.le_trans (show _ ≤ 1000 by rw [List.length_map]; show ns.length + 1 ≤ 1000; omega) (by decide), fun c nc => ?_⟩
      have s4 := same_upd (o := .lst (ns.map V.int ++ [.int ((((ns.map V.int).length : Nat) : Int) + 5)])) nc
      have hc : (upd (upd H4 m (.lst [.int ((((ns.map V.int).length : Nat) : Int) + 5)])) c (.lst (ns.map V.int ++ [.int ((((ns.map V.int).length : Nat) : Int) + 5)]))) c = some (.lst ((ns ++ [(((ns.map V.int).length : Nat) : Int) + 5]).map V.int)) := by rw [upd_same, List.map_append]; rfl
      have s34 := s2.trans (s3.trans s4)
      show _ ∧ ∃ kvs : List (Key × V), _
      generalize upd (upd H4 m (.lst [.int ((((ns.map V.int).length : Nat) : Int) + 5)])) c (.lst (ns.map V.int ++ [.int ((((ns.map V.int).length : Nat) : Int) + 5)])) = H5 at s34 hc ⊢
      refine ⟨s34 _ _ hd, drL g c 0 0, rfl, by show 4 ≤ 15; decide, ?_⟩
      have nd0 : H d = none := sm.free nd
      have gd : g ≠ d := ne_of_none hg nd
      have cd : c ≠ d := ne_of hc (s34 _ _ hd) (by intro z; cases z)
      have gc : g ≠ c := ne_of_none ((s2.trans s3) _ _ hg1) nc
      refine q d g c _ ((s1.trans s34).own nd0) nd0 ng ⟨gs, ns ++ [(((ns.map V.int).length : Nat) : Int) + 5], 0, 0, upd_same, ?_, ?_, by simp, by omega, ?_, gc⟩
      · rw [upd_ne gd]; exact s34 _ _ hg1
      · rw [upd_ne cd]; exact hc
      · rw [List.length_append]; show ns.length + 1 ≤ 1000; omega
end
section
variable {P : Program} {w : World} {K : PySem.W.Frag} {mg : Str → Option Value} {base : Heap}
def spNm : Sp := fun vs H Q _ => ∃ (d g c : Addr), vs = [.ref d] ∧ Dr H d g c ∧ ∀ z H', isNameL z = true → Dr H' d g c → Up d g H H' → Q (.str z) H'
theorem ok_name (T : Tp K w mg) : FnOk P w K mg base CX0 2 T.f_name T.fd_name ["_law_draw"] spNm := by
  refine T.D_name.F.ok sc_name (fun vs H Q E h => ?_) (fun cdv A outer s H vs Q E hr h => ?_)
  · obtain ⟨d, g, c, rfl, _⟩ := h
    rfl
  · obtain ⟨d, g, c, rfl, D, q⟩ := h
    refine ⟨_, (pss_cons (ps_set (i := 1) sc_name.nd rfl (.inl rfl) (pe_lst (pa_cons pe_str (pa_cons pe_str (pa_cons pe_str (pa_cons pe_str (pa_cons pe_str (pa_cons pe_str (pa_cons pe_str (pa_cons pe_str (pa_cons pe_str (pa_cons pe_str (pa_cons pe_str (pa_cons pe_str (pa_cons pe_str pa_nil)))))))))))))))
  (pss_cons (ps_set (i := 1) sc_name.nd rfl (.inl rfl) (pe_op op_cat (pv 1) (pe_lst (pa_cons pe_str (pa_cons pe_str (pa_cons pe_str (pa_cons pe_str (pa_cons pe_str (pa_cons pe_str (pa_cons pe_str (pa_cons pe_str (pa_cons pe_str (pa_cons pe_str (pa_cons pe_str (pa_cons pe_str (pa_cons pe_str pa_nil))))))))))))))))
  (pss_cons (ps_set (i := 2) sc_name.nd rfl (.inl rfl) (pe_ix ix_list (pv 1) (pcall T.D_next (ok_next T) hr (by rfl) (pa_cons (pv 0) (pa_cons pe_int pa_nil))) (fun _ _ => rfl)))
  (pss_cons (ps_par (i := 3) (j := 4) rfl sc_name.nd rfl rfl (by decide) rfl rfl (pa_cons (pe_op op_add pe_int (pcall T.D_next (ok_next T) hr (by rfl) (pa_cons (pv 0) (pa_cons pe_int pa_nil)))) (pa_cons (pcall T.D_next (ok_next T) hr (by rfl) (pa_cons (pv 0) (pa_cons pe_int pa_nil))) pa_nil)) (by rfl))
  (pss_cons (ps_setLc (i := 5) (own := [("_law_k", 6)]) (g := gName 6) (by rfl) sc_name.nd rfl rfl (sw_true rfl rfl rfl (by decide +kernel)) (pi_range1 (by rfl) T.range (pa_cons (pv 3) pa_nil)) (blkOk_by (own := [("_law_k", 6)]) (N := ["_law_draw", "_law_own", "_law_name_here", "_law_many", "_law_way", "_law_letters", "_law_k"]) (sc := defScope s_name) (by decide +kernel)) (fun _ _ _ _ _ => (pg_name (i := 6) sc_name.nd rfl (.inl rfl))) (fun _ _ _ _ _ => pts_nil) (fun _ _ _ _ _ => (pe_ix ix_str pe_str (pcall T.D_next (ok_next T) hr (by rfl) (pa_cons (pv 0) (pa_cons pe_int pa_nil))) (fun _ _ => rfl))))
  (pss_one (ps_ret (pe_ifExp (pt_cmpR op_eq (pv 4) pe_int (nomark _)) (pv 2) (pe_join pe_str (pv 5)))))))))), ?_⟩
    refine ⟨by show 13 ≤ sizeLine; decide, fun o no => ?_⟩
    have s1 := same_upd (o := .lst (own13.map V.str)) no
    have h1 : (upd H o (.lst (own13.map V.str))) o = some (.lst (own13.map V.str)) := upd_same
    show tSeq _ _ _ _ (upd H o (.lst (own13.map V.str)))
    generalize upd H o (.lst (own13.map V.str)) = H1 at s1 h1 ⊢
    refine ⟨_, rfl, by show 13 ≤ sizeLine; decide, fun o2 no2 => ?_⟩
    have s2 := same_upd (o := .lst (own13b.map V.str)) no2
    have h2 : (upd H1 o2 (.lst (own13b.map V.str))) o2 = some (.lst (own13b.map V.str)) := upd_same
    show rCat _ _ (upd H1 o2 (.lst (own13b.map V.str))) _
    generalize upd H1 o2 (.lst (own13b.map V.str)) = H2 at s2 h2 ⊢
    refine ⟨o, o2, _, _, rfl, rfl, s2 _ _ h1, h2, by show 26 ≤ sizeLine; decide, fun O nO => ?_⟩
    have s3 := same_upd (o := .lst (own26.map V.str)) nO
    have hO : (upd H2 O (.lst (own26.map V.str))) O = some (.lst (own26.map V.str)) := upd_same
    have s13 := (s1.trans s2).trans s3
    show tSeq _ _ _ _ (upd H2 O (.lst (own26.map V.str)))
    generalize upd H2 O (.lst (own26.map V.str)) = H3 at s13 hO ⊢
    have D3 := D.same s13
    have OD := (D.same (s1.trans s2)).apart nO
    have u3 : Up d g H H3 := Up.of s13
    -- name_here
    refine ⟨_, rfl, _, rfl, d, g, c, 26, rfl, D3, by decide, by decide, fun r H4 r0 r1 D4 u4 => ?_⟩
    obtain ⟨j, rfl⟩ : ∃ j : Nat, r = (j : Int) := ⟨r.toNat, by omega⟩
    have hj : j < own26.length := by show j < 26; omega
    refine ⟨O, _, _, .str own26[j], rfl, rfl, sl (u4 _ _ hO OD.1 OD.2.1), atI_nat (by rw [List.getElem?_map, List.getElem?_eq_getElem hj]; rfl), ?_⟩
    have hnm := own_names _ (List.getElem_mem hj)
    generalize own26[j] = nm at hnm ⊢
    -- many, way
    refine ⟨_, rfl, d, g, c, 6, rfl, D4, by decide, by decide, fun m H5 m0 m1 D5 u5 => ⟨_, _, rfl, rfl, ?_⟩⟩
    refine ⟨_, rfl, d, g, c, 3, rfl, D5, by decide, by decide, fun way H6 w0 w1 D6 u6 => ⟨_, _, rfl, ?_⟩⟩
    have u36 := ((u3.trans u4).trans u5).trans u6
    -- letters
    refine ⟨_, rfl, 1 + m, rfl, by omega, by omega, fun L nL => ?_⟩
    have LD := D6.apart nL
    refine lc_it walk_range (fun i H2 => Dr H2 d g c ∧ Up d g H6 H2 ∧ ∃ cs : List Nat, H2 L = some (.lst ((cs.map sg).map V.str)) ∧ cs.length = i ∧ ∀ x ∈ cs, isLow x = true) ⟨D6.same (same_upd nL), Up.of (same_upd nL), [], upd_same, rfl, fun _ z => by cases z⟩ (fun _ _ _ _ => trivial) ?_ ?_
    · rintro i x H7 H8 hi ⟨D7, u7, cs, hL, hcs, hlow⟩ ⟨rfl, rfl⟩
      refine ⟨rfl, _, rfl, d, g, c, 26, rfl, D7, by decide, by decide, fun r H9 r0 r1 D9 u9 => ?_⟩
      obtain ⟨k, rfl⟩ : ∃ k : Nat, r = (k : Int) := ⟨r.toNat, by omega⟩
      refine ⟨_, _, _, rfl, rfl, by show 26 ≤ sizeLine; decide, letters_at (by omega), _, u9 _ _ hL LD.1 LD.2.1, ?_, ?_, ?_, cs ++ [k + 97], ?_, ?_, ?_⟩
      · rw [List.length_map, List.length_map]; exact small1000 (by omega)
      · exact D9.set LD.1 LD.2.1 LD.2.2
      · exact (u7.trans u9).own nL
      · rw [upd_same, List.map_append, List.map_append]; rfl
      · rw [List.length_append, hcs]; rfl
      · intro y hy
        rcases List.mem_append.mp hy with hy | hy
        · exact hlow y hy
        · rw [List.mem_singleton.mp hy]
          unfold isLow
          rw [decide_eq_true (by omega), decide_eq_true (by omega)]
          rfl
    · rintro H7 ⟨D7, u7, cs, hL, hcs, hlow⟩
      refine ⟨_, rfl, rfl, _, rfl, ite2 (fun _ => ?_) (fun _ => ?_)⟩
      · exact ⟨_, rfl, q _ _ hnm D7 (u36.trans u7)⟩
      · refine ⟨⟨_, rfl⟩, _, rfl, _, L, _, rfl, rfl, .inl (sl hL), ?_, ?_⟩
        · rw [sg_sum, List.length_map, show (Str.ofString "").length = 0 from rfl]
          omega
        · exact q _ _ (join_name (by omega) (by omega) hlow) D7 (u36.trans u7)
end
end TP
namespace TP
open PySem PySem.Spec PyProof.Rows L2 HX HB HG HU HH HD HS HV HQ HK HN HJ TL HM
def intS (i : Int) : Str := toString i
def okS (z : Str) : Bool := PyData.canLay0 (.str z)
theorem int_len {i : Int} (h : i.natAbs ≤ 10 ^ 13) : (intS i).length ≤ 15 := by
  have h1 : i.natAbs < 10 ^ 14 := Nat.lt_of_le_of_lt h (by decide)
  have := int_text_length_le10 (k := 14) (by decide) h1
  show (Str.ofString (toString i)).length ≤ 15
  rw [PySem.ofString_length]
  exact this
theorem sz6 {n : Nat} (h : n ≤ 4000000) : n < sizeLine := Nat.lt_of_le_of_lt h (by show 4000000 < 2 ^ 24; decide)
theorem six : (10 : Nat) ^ 6 = 1000000 := by decide
theorem walk2 {J : It} {n : Nat} {G : Hp → Prop} {Y : Nat → Hp → V → Hp → Prop} (w : Walk J n G Y) {B : (Hp → Prop) → V → Hp → Prop} {H1 : Hp} {Qd : Hp → Prop} (Pv : Nat → Hp → Prop) (h0 : Pv 0 H1) (hG : ∀ i H, i ≤ n → Pv i H → G H) (hs : ∀ i x H H', i < n → Pv i H → Y i H x H' → B (Pv (i + 1)) x H') (hd : ∀ H, Pv n H → Qd H) :
    ∃ W : Nat → Nat → Hp → Prop, (∃ m, W 0 m H1) ∧ ∀ i m H, W i m H → (J.stop i H ∧ Qd H) ∨ (J.go i H ∧ ∃ Nx : Hp → Prop, (∀ H', Nx H' → ∃ m', m' < m ∧ W (i + 1) m' H') ∧ ∀ x H', J.yld i H x H' → B Nx x H') := by
  refine ⟨fun i m H => m = n - i ∧ i ≤ n ∧ Pv i H, ⟨n, by simp, Nat.zero_le _, h0⟩, ?_⟩
  rintro i m H ⟨rfl, hi, p⟩
  have q := hG i H hi p
  by_cases hlt : i < n
  · exact .inr ⟨w.goes i H hlt q, Pv (i + 1), fun H' p' => ⟨n - (i + 1), by omega, rfl, hlt, p'⟩, fun x H' y => hs i x H H' hlt p (w.yields i H x H' hlt q y)⟩
  · have e : i = n := by omega
    subst e
    exact .inl ⟨w.stops H q, hd H p⟩
theorem passN {X : Cx} : Passes (L2.CX X.prog X.w) X E0 := fun _ _ _ _ _ _ _ h => by
  obtain ⟨_, _, _, _, _, _, _, _, _, _, _, _, h⟩ := h
  exact h.elim
theorem Same.V1 {x dx : Addr} {H H' : Hp} {o1 o2 : HO} (nx : H x = none) (nd : H dx = none) (v : V1 x (upd (upd H dx o1) x o2) H') : Same H H' := fun b o h => v b o ((((Same.refl H).own nd).own nx) b o h) (fun e => by rw [e, nx] at h; cases h)
structure Pf (K : PySem.W.Frag) (H0 H : Hp) (p C : Addr) (cs : List (Str × Int)) (ls : List Str) (hs : List (Str × Int)) (rows : List PyData) (spots : List (List Int)) : Prop where
  ex : ∃ (dx s f l w : Addr) (b : V) (vs : List V), H p = some (.ins C dx [("spots", .ref s), ("tree", b), ("first", .ref f), ("bolts", .ref l), ("widths", .ref w)]) ∧ Dp K H b (.tuple rows) ∧ H s = some (.lst vs) ∧ PL K H vs spots ∧ H f = some (.dK (dI cs)) ∧ H l = some (.lst (ls.map V.str)) ∧ H w = some (.dK (dI hs)) ∧ H0 p = none ∧ H0 s = none ∧ H0 f = none ∧ H0 l = none ∧ H0 w = none
  tup : tupAll rows = true
theorem Pf.keep {K : PySem.W.Frag} {H0 H H' : Hp} {p C : Addr} {cs : List (Str × Int)} {ls : List Str} {hs : List (Str × Int)} {rows : List PyData} {spots : List (List Int)} (g : Pf K H0 H p C cs ls hs rows spots) (k : ∀ b o, H b = some o → H0 b = none → H' b = some o) (kt : ∀ a xs, SqT K H a xs → SqT K H' a xs) : Pf K H0 H' p C cs ls hs rows spots := by
  obtain ⟨⟨dx, s, f, l, w, b, vs, hp, hb, hs', hPL, hf, hl, hw, n1, n2, n3, n4, n5⟩, z7⟩ := g
  exact ⟨⟨dx, s, f, l, w, b, vs, k _ _ hp n1, dp_keep kt (show tupD (.tuple rows) = true from z7) hb, k _ _ hs' n2, paired_imp (fun _ _ ⟨t, e, h⟩ => ⟨t, e, kt _ _ h⟩) hPL, k _ _ hf n3, k _ _ hl n4, k _ _ hw n5, n1, n2, n3, n4, n5⟩, z7⟩
theorem Pf.same {K : PySem.W.Frag} {H0 H H' : Hp} {p C : Addr} {cs : List (Str × Int)} {ls : List Str} {hs : List (Str × Int)} {rows : List PyData} {spots : List (List Int)} (g : Pf K H0 H p C cs ls hs rows spots) (s : Same H H') : Pf K H0 H' p C cs ls hs rows spots := g.keep (fun b o h _ => s b o h) fun _ _ h => s.sqt h
theorem Pf.base {K : PySem.W.Frag} {H0 H1 H : Hp} {p C : Addr} {cs : List (Str × Int)} {ls : List Str} {hs : List (Str × Int)} {rows : List PyData} {spots : List (List Int)} (g : Pf K H0 H p C cs ls hs rows spots) (k : ∀ b, H0 b = none → H1 b = none) : Pf K H1 H p C cs ls hs rows spots := by
  obtain ⟨⟨dx, s, f, l, w, b, vs, hp, hb, hs', hPL, hf, hl, hw, n1, n2, n3, n4, n5⟩, z7⟩ := g
  exact ⟨⟨dx, s, f, l, w, b, vs, hp, hb, hs', hPL, hf, hl, hw, k _ n1, k _ n2, k _ n3, k _ n4, k _ n5⟩, z7⟩
theorem Pf.made {K : PySem.W.Frag} {H H' : Hp} {x dx C : Addr} {b : V} {cs : List (Str × Int)} {ls : List Str} {hs : List (Str × Int)} {rows : List PyData} {spots : List (List Int)} (nx : H x = none) (ndx : H dx = none) (O : PObj K (upd (upd H dx (.own x)) x (.ins C dx [])) H' x C b cs ls hs spots) (hd : Dp K H b (.tuple rows)) (v1 : V1 x (upd (upd H dx (.own x)) x (.ins C dx [])) H') (t : tupAll rows = true) : Pf K H H' x C cs ls hs rows spots := by
  obtain ⟨dx', s', f, l, wd, vs, hp, hs', hPL, hf, hl, hw, _, _, f1, f2, f3, f4⟩ := O.ex
  have sc : Same H (upd (upd H dx (.own x)) x (.ins C dx [])) := ((Same.refl H).own ndx).own nx
  have sH := Same.V1 nx ndx v1
  have fr : ∀ {b : Addr}, (upd (upd H dx (.own x)) x (.ins C dx [])) b = none → H b = none := fun h => sc.free h
  exact ⟨⟨dx', s', f, l, wd, b, vs, hp, sH.dp hd, hs', hPL, hf, hl, hw, nx, fr f1, fr f2, fr f3, fr f4⟩, t⟩
theorem okS_iff {z : Str} : okS z = true ↔ ∀ c ∈ z.cps.toList, c < 0x110000 := by
  show z.cps.all (fun c => decide (c < 0x110000)) = true ↔ _
  rw [← Array.all_toList, List.all_eq_true]
  exact ⟨fun h c hc => of_decide_eq_true (h c hc), fun h c hc => decide_eq_true (h c hc)⟩
theorem okS_int (i : Int) : okS (intS i) = true := by
  rw [okS_iff]
  intro c hc
  have e : (intS i).cps.toList = (toString i).toList.map Char.toNat := signs_ofString _
  rw [e] at hc
  obtain ⟨ch, _, rfl⟩ := List.mem_map.mp hc
  have := ch.valid
  rcases this with h | ⟨_, h⟩
  · exact Nat.lt_trans h (by decide)
  · exact h
theorem okS_app {x y : Str} (hx : okS x = true) (hy : okS y = true) : okS (x ++ y) = true := by
  rw [okS_iff] at hx hy ⊢
  intro c hc
  rw [show (x ++ y).cps.toList = x.cps.toList ++ y.cps.toList from tl_append x y] at hc
  rcases List.mem_append.mp hc with hc | hc
  · exact hx c hc
  · exact hy c hc
theorem okS_join {s : Str} (hs : okS s = true) : ∀ zs : List Str, (∀ z ∈ zs, okS z = true) → okS (Str.join s zs) = true
  | [], _ => by show okS Str.empty = true; decide +kernel
  | [z], h => h z (List.mem_cons_self ..)
  | z :: y :: r, h => by
    show okS (z ++ s ++ Str.join s (y :: r)) = true
    exact okS_app (okS_app (h z (List.mem_cons_self ..)) hs) (okS_join hs (y :: r) fun x hx => h x (List.mem_cons_of_mem _ hx))
theorem name_okS {z : Str} (h : isNameL z = true) : okS z = true := (Low.of h).lay
def isSep (c : Nat) : Bool := decide (c = 10 ∨ c = 32)
def scn : List Nat → List Nat → List (List Nat)
  | acc, [] => if acc = [] then [] else [acc]
  | acc, c :: r => if isSep c = true then (if acc = [] then scn [] r else acc :: scn [] r) else scn (acc ++ [c]) r
def ne0 (l : List Nat) : Bool := decide (l ≠ [])
theorem pre_one (s c : Nat) (r : List Nat) : pre [s] (c :: r) = decide (c = s) := by
  show ([c] == [s]) = _
  by_cases h : c = s
  · subst h; simp
  · rw [decide_eq_false h]; simp [h]
theorem spl_one (s : Nat) (acc : List Nat) (c : Nat) (r : List Nat) : spl [s] 0 acc (c :: r) = if c = s then acc :: spl [s] 0 [] r else spl [s] 0 (acc ++ [c]) r := by
  by_cases h : c = s
  · rw [spl_hit (by rw [pre_one, decide_eq_true h]), if_pos h]
    rfl
  · rw [spl_miss (by rw [pre_one, decide_eq_false h]), if_neg h]
theorem scn_spl : ∀ (a p acc : List Nat) (fr : List (List Nat)), (∀ x, (spl [32] 0 [] (p ++ x)).filter ne0 = fr ++ (spl [32] 0 acc x).filter ne0) → ((spl [10] 0 p a).flatMap fun row => (spl [32] 0 [] row).filter ne0) = fr ++ scn acc a
  | [], p, acc, fr, h => by
    rw [spl_nil, List.flatMap_cons, List.flatMap_nil, List.append_nil]
    have := h []
    rw [List.append_nil, spl_nil] at this
    rw [this]
    congr 1
    unfold scn
    by_cases e : acc = []
    · subst e; rfl
    · rw [if_neg e, List.filter_cons_of_pos (by unfold ne0; exact decide_eq_true e)]
      rfl
  | c :: r, p, acc, fr, h => by
    rw [spl_one]
    unfold scn
    by_cases h10 : c = 10
    · rw [if_pos h10, if_pos (by unfold isSep; exact decide_eq_true (.inl h10)), List.flatMap_cons]
      have ih := scn_spl r [] [] [] (fun x => by rw [List.nil_append]; rfl)
      rw [List.nil_append] at ih
      rw [ih]
      have := h []
      rw [List.append_nil, spl_nil] at this
      rw [this, List.append_assoc]
      congr 1
      by_cases e : acc = []
      · subst e; rfl
      · rw [if_neg e, List.filter_cons_of_pos (by unfold ne0; exact decide_eq_true e)]
        rfl
    · rw [if_neg h10]
      by_cases h32 : c = 32
      · rw [if_pos (by unfold isSep; exact decide_eq_true (.inr h32))]
        by_cases e : acc = []
        · rw [if_pos e]
          refine scn_spl r (p ++ [c]) [] fr fun x => ?_
          rw [List.append_assoc, h]
          subst e
          show _ = _
          rw [List.singleton_append, spl_one, if_pos h32]
          rfl
        · rw [if_neg e]
          have ih := scn_spl r (p ++ [c]) [] (fr ++ [acc]) fun x => by
            rw [List.append_assoc, h, List.singleton_append, spl_one, if_pos h32, List.append_assoc]
            congr 1
            rw [List.filter_cons_of_pos (by unfold ne0; exact decide_eq_true e)]
            rfl
          rw [ih, List.append_assoc]
          rfl
      · rw [if_neg (by unfold isSep; intro z; exact (of_decide_eq_true z).elim h10 h32)]
        refine scn_spl r (p ++ [c]) (acc ++ [c]) fr fun x => ?_
        rw [List.append_assoc, h, List.singleton_append, spl_one, if_neg h32]
def wordsOf (t : Str) : List Str := (scn [] t.cps.toList).map SX.S
theorem S_map_tl : ∀ zs : List Str, (zs.map tl).map SX.S = zs
  | [] => rfl
  | z :: zs => by
    rw [List.map_cons, List.map_cons, S_map_tl zs]
structure Wd (z : Str) : Prop where
  ne : tl z ≠ []
  pl : ∀ c ∈ tl z, isSep c = false
theorem scn_word : ∀ (w acc x : List Nat), (∀ c ∈ w, isSep c = false) → scn acc (w ++ x) = scn (acc ++ w) x
  | [], acc, x, _ => by rw [List.nil_append, List.append_nil]
  | c :: w, acc, x, h => by
    have hc := h c (List.mem_cons_self ..)
    rw [List.cons_append]
    show (if isSep c = true then _ else scn (acc ++ [c]) (w ++ x)) = _
    rw [if_neg (by rw [hc]; exact Bool.false_ne_true), scn_word w (acc ++ [c]) x fun d hd => h d (List.mem_cons_of_mem _ hd), List.append_assoc]
    rfl
theorem scn_last {w : List Nat} (hw : w ≠ []) (h : ∀ c ∈ w, isSep c = false) : scn [] w = [w] := by
  have := scn_word w [] [] h
  rw [List.append_nil, List.nil_append] at this
  rw [this]
  show (if w = [] then [] else [w]) = [w]
  rw [if_neg hw]
theorem scn_join : ∀ (ws : List Str), (∀ z ∈ ws, Wd z) → scn [] (joinL [32] (ws.map tl)) = ws.map tl
  | [], _ => rfl
  | [z], h => scn_last (h z (List.mem_cons_self ..)).ne (h z (List.mem_cons_self ..)).pl
  | z :: y :: ws, h => by
    have w := h z (List.mem_cons_self ..)
    have ih := scn_join (y :: ws) fun x hx => h x (List.mem_cons_of_mem _ hx)
    have e : joinL [32] ((z :: y :: ws).map tl) = tl z ++ ([32] ++ joinL [32] ((y :: ws).map tl)) := by
      rfl
    rw [e, scn_word _ _ _ w.pl, List.nil_append]
    show (if isSep 32 = true then (if tl z = [] then _ else tl z :: scn [] ([] ++ joinL [32] ((y :: ws).map tl))) else _) = _
    rw [if_pos (by decide), if_neg w.ne, List.nil_append, ih]
    rfl
theorem words_join {ws : List Str} (h : ∀ z ∈ ws, Wd z) : wordsOf (Txt.join " " ws) = ws := by
  unfold wordsOf
  have e : (Txt.join " " ws).cps.toList = joinL [32] (ws.map tl) := by
    rw [join_eq]
    exact tl_join " " ws
  rw [e, scn_join ws h, S_map_tl]
theorem Wd.name {z : Str} (h : isNameL z = true) : Wd z := by
  unfold isNameL at h
  simp only [Bool.and_eq_true, decide_eq_true_eq, List.all_eq_true] at h
  refine ⟨fun e => ?_, fun c hc => ?_⟩
  · have e2 : z.cps.toList = [] := e
    have : z.length = z.cps.toList.length := by simp [Str.length]
    rw [e2] at this
    have h1 := h.1.1
    rw [this] at h1
    exact absurd h1 (by decide)
  · have := h.2 c hc
    unfold isLow at this
    simp only [Bool.and_eq_true, decide_eq_true_eq] at this
    unfold isSep
    exact decide_eq_false (by omega)
def isDig (c : Nat) : Bool := decide (48 ≤ c ∧ c ≤ 57)
theorem int_codes (i : Int) : tl (intS i) = if 0 ≤ i then numL i.toNat else 45 :: numL (-i).toNat := by
  unfold intS
  split
  · rename_i h
    obtain ⟨n, rfl⟩ : ∃ n : Nat, i = n := ⟨i.toNat, by omega⟩
    exact tl_num n
  · rename_i h
    obtain ⟨n, rfl⟩ : ∃ n : Nat, i = -((n : Nat) : Int) := ⟨(-i).toNat, by omega⟩
    have hn : 0 < n := by omega
    have e1 := signs_ofString (toString (-((n : Nat) : Int)))
    have e2 := tl_num n
    rw [tl_ofString] at e2
    obtain ⟨m, rfl⟩ : ∃ m, n = m + 1 := ⟨n - 1, by omega⟩
    have e3 : toString (-((m + 1 : Nat) : Int)) = "-" ++ toString ((m + 1 : Nat) : Int) := rfl
    show tl (Str.ofString (toString (-((m + 1 : Nat) : Int)))) = _
    rw [tl_ofString, e3, String.toList_append, List.map_append, e2, show (-(-((m + 1 : Nat) : Int))).toNat = m + 1 by omega]
    rfl
theorem numL_dig {n c : Nat} (h : c ∈ numL n) : 48 ≤ c ∧ c ≤ 57 := numL_digits n c h
theorem Wd.int (i : Int) : Wd (intS i) := by
  refine ⟨?_, fun c hc => ?_⟩
  · rw [int_codes]
    split
    · exact numL_ne _
    · exact List.cons_ne_nil _ _
  · rw [int_codes] at hc
    unfold isSep
    refine decide_eq_false ?_
    split at hc
    · have := numL_dig hc; omega
    · rcases List.mem_cons.mp hc with rfl | hc
      · omega
      · have := numL_dig hc; omega
def figsOf (l : List Nat) : List Nat := if l.take 1 = [45] then l.drop 1 else l
def isFigL (l : List Nat) : Bool := decide (figsOf l ≠ []) && ((figsOf l).all isDig && (decide (l = [48]) || decide ((figsOf l).head? ≠ some 48)))
def isFig (z : Str) : Bool := isFigL (tl z)
theorem numL_head : ∀ n : Nat, n ≠ 0 → (numL n).head? ≠ some 48
  | n, hn => by
    by_cases h : n < 10
    · rw [numL_lt h]
      simp
      omega
    · rw [numL_step (by omega)]
      have ih := numL_head (n / 10) (by omega)
      cases e : numL (n / 10) with
      | nil => exact absurd e (numL_ne _)
      | cons c r =>
        rw [e] at ih
        exact ih
  termination_by n => n
theorem figs_num (n : Nat) : figsOf (numL n) = numL n := by
  unfold figsOf
  rw [if_neg]
  intro e
  have : 45 ∈ numL n := List.mem_of_mem_take (e ▸ List.mem_singleton.mpr rfl : 45 ∈ (numL n).take 1)
  have := numL_dig this
  omega
theorem all_dig (n : Nat) : (numL n).all isDig = true := List.all_eq_true.mpr fun c hc => decide_eq_true (numL_dig hc)
theorem isFig_int (i : Int) : isFig (intS i) = true := by
  unfold isFig
  rw [int_codes]
  split
  · unfold isFigL
    rw [figs_num, all_dig, decide_eq_true (numL_ne _)]
    by_cases h : i.toNat = 0
    · rw [h, show numL 0 = [48] from numL_lt (by decide)]
      rfl
    · rw [decide_eq_true (numL_head _ h), Bool.or_true]
      rfl
  · rename_i hi
    unfold isFigL
    have e : figsOf (45 :: numL (-i).toNat) = numL (-i).toNat := by
      unfold figsOf
      rw [if_pos (by simp)]
      simp
    rw [e, all_dig, decide_eq_true (numL_ne _), decide_eq_true (numL_head _ (by omega)), Bool.or_true]
    rfl
theorem isFig_not {z : Str} (h : ∃ c r, tl z = c :: r ∧ c ≠ 45 ∧ ¬ (48 ≤ c ∧ c ≤ 57)) : isFig z = false := by
  obtain ⟨c, r, e, h1, h2⟩ := h
  unfold isFig isFigL
  have ef : figsOf (tl z) = c :: r := by
    rw [e]
    unfold figsOf
    rw [if_neg (by simp [h1])]
  rw [ef, List.all_cons, show isDig c = false from decide_eq_false h2, Bool.false_and, Bool.false_and, Bool.and_false]
theorem isFig_name {z : Str} (h : isNameL z = true) : isFig z = false := by
  have w := Wd.name h
  unfold isNameL at h
  simp only [Bool.and_eq_true, decide_eq_true_eq, List.all_eq_true] at h
  refine isFig_not ?_
  cases e : tl z with
  | nil => exact absurd e w.ne
  | cons c r =>
    have := h.2 c (by show c ∈ tl z; rw [e]; exact List.mem_cons_self ..)
    unfold isLow at this
    simp only [Bool.and_eq_true, decide_eq_true_eq] at this
    exact ⟨c, r, rfl, by omega, by omega⟩
theorem zs_dp {K : PySem.W.Frag} {H : Hp} : ∀ zs : List Str, DpAll K H (zs.map V.str) (zs.map .str)
  | [] => .nil
  | z :: zs => .cons (.str z) (zs_dp zs)
structure Rt2 (cn ls hn : List Str) (rows : List PyData) : Prop where
  w : wrongD cn ls hn 22 rows [] [] 0 = none
  c : cntD 22 rows ≤ 60
  g : Good (.tuple rows) 22
  t : tupAll rows = true
theorem Rt2.of {cn ls hn : List Str} {rows : List PyData} {m : Nat} (h : Rows cn ls hn [] 0 0 rows m) (h60 : m ≤ 60) (l : rows.length ≤ 1000) : Rt2 cn ls hn rows :=
  ⟨h.right 21 [] (by decide) rfl, by rw [h.cnt 21 (by decide)]; exact h60, (h.good1 (by omega)).mono (by decide), h.tup⟩
theorem strs_shaped2 {zs : List Str} (h : ∀ z ∈ zs, PyData.canLay0 (.str z) = true) : SeqAt.shaped (.list (zs.map .str)) = true := by
  have k : ∀ {zs : List Str}, (∀ z ∈ zs, PyData.canLay0 (.str z) = true) → PyData.canLayAll0 (zs.map .str) = true ∧ PyData.depthAll (zs.map .str) = 0 := by
    intro zs
    induction zs with
    | nil => intro _; exact ⟨rfl, rfl⟩
    | cons z zs ih =>
      intro h
      obtain ⟨h1, h2⟩ := ih fun y hy => h y (List.mem_cons_of_mem _ hy)
      refine ⟨by simp only [List.map_cons, PyData.canLayAll0, h z (List.mem_cons_self ..), h1, Bool.and_self], ?_⟩
      show max 0 (PyData.depthAll (zs.map .str)) = 0
      rw [h2]
      rfl
  obtain ⟨h1, h2⟩ := k h
  show (PyData.canLay0 (.list (zs.map .str)) && decide (PyData.depth (.list (zs.map .str)) ≤ 64)) = true
  have e1 : PyData.canLay0 (.list (zs.map .str)) = true := h1
  have e2 : PyData.depth (.list (zs.map .str)) = 1 := by show PyData.depthAll _ + 1 = 1; rw [h2]
  rw [e1, e2]
  rfl
structure Rd (H : Hp) (p C : Addr) (ws : List Str) (i : Nat) : Prop where
  ex : ∃ dx l, H p = some (.ins C dx [("left", .ref l), ("at", .int (i : Int))]) ∧ H l = some (.lst (ws.map V.str))
theorem Rd.same {H H' : Hp} {p C : Addr} {ws : List Str} {i : Nat} (r : Rd H p C ws i) (s : Same H H') : Rd H' p C ws i := by
  obtain ⟨dx, l, h1, h2⟩ := r.ex
  exact ⟨dx, l, s _ _ h1, s _ _ h2⟩
theorem Rd.some {H : Hp} {p C : Addr} {ws : List Str} {i : Nat} (r : Rd H p C ws i) : ∃ o, H p = some o := let ⟨_, _, h, _⟩ := r.ex; ⟨_, h⟩
theorem V1.refl {p : Addr} {H : Hp} : V1 p H H := V1.of (Same.refl H)
theorem V1.tr {p : Addr} {H H' H'' : Hp} (a : V1 p H H') (b : V1 p H' H'') : V1 p H H'' := fun x o h e => b x o (a x o h e) e
theorem V1.own {p : Addr} {H H' : Hp} (a : V1 p H H') {L : Addr} (n : H L = none) {o : HO} : V1 p H (upd H' L o) := fun x y h e => by
  rw [upd_ne (fun z => by subst z; rw [n] at h; cases h)]
  exact a x y h e
theorem V1.sqt {K : PySem.W.Frag} {p C dx : Addr} {fs : List (Str × V)} {H H' : Hp} (v : V1 p H H') (hp : H p = Option.some (.ins C dx fs)) {a : Addr} {xs : List V} (h : SqT K H a xs) : SqT K H' a xs :=
  sqt_kept (fun a o ha hi => v a o ha fun e => by subst e; rw [hp] at ha; cases ha; exact hi _ _ _ rfl) h
theorem V1.dp {K : PySem.W.Frag} {p C dx : Addr} {fs : List (Str × V)} {H H' : Hp} (v : V1 p H H') (hp : H p = Option.some (.ins C dx fs)) {x : V} {d : PyData} (t : tupD d = true) (h : Dp K H x d) : Dp K H' x d := dp_keep (fun _ _ h => v.sqt hp h) t h
structure VR (p : Addr) (H H' : Hp) : Prop where
  v : V1 p H H'
  k : ∀ C dx l n, H p = Option.some (.ins C dx [("left", .ref l), ("at", n)]) → ∃ n', H' p = Option.some (.ins C dx [("left", .ref l), ("at", n')])
theorem VR.of {p : Addr} {H H' : Hp} (s : Same H H') : VR p H H' := ⟨V1.of s, fun _ _ _ n h => ⟨n, s _ _ h⟩⟩
theorem VR.refl {p : Addr} {H : Hp} : VR p H H := VR.of (Same.refl H)
theorem VR.tr {p : Addr} {H H' H'' : Hp} (a : VR p H H') (b : VR p H' H'') : VR p H H'' := ⟨a.v.tr b.v, fun C dx l n h => let ⟨n1, h1⟩ := a.k C dx l n h; b.k C dx l n1 h1⟩
theorem VR.trans {p : Addr} {H H' H'' : Hp} (a : VR p H H') (b : Same H' H'') : VR p H H'' := a.tr (VR.of b)
theorem VR.set {p C dx l : Addr} {n n' : V} {H : Hp} (h : H p = Option.some (.ins C dx [("left", .ref l), ("at", n)])) : VR p H (upd H p (.ins C dx [("left", .ref l), ("at", n')])) := ⟨V1.refl.set, fun C2 dx2 l2 n2 h2 => ⟨n', by rw [h] at h2; cases h2; exact upd_same⟩⟩
theorem VR.own {p : Addr} {H H' : Hp} (a : VR p H H') {L : Addr} (n : H L = none) {o : HO} : VR p H (upd H' L o) := ⟨a.v.own n, fun C dx l m h => let ⟨m', h'⟩ := a.k C dx l m h; ⟨m', by rw [upd_ne (fun z => by subst z; rw [h] at n; cases n)]; exact h'⟩⟩
theorem VR.sqt {K : PySem.W.Frag} {p C dx : Addr} {fs : List (Str × V)} {H H' : Hp} (v : VR p H H') (hp : H p = Option.some (.ins C dx fs)) {a : Addr} {xs : List V} (h : SqT K H a xs) : SqT K H' a xs := v.v.sqt hp h
theorem VR.dp {K : PySem.W.Frag} {p C dx : Addr} {fs : List (Str × V)} {H H' : Hp} (v : VR p H H') (hp : H p = Option.some (.ins C dx fs)) {x : V} {d : PyData} (t : tupD d = true) (h : Dp K H x d) : Dp K H' x d := v.v.dp hp t h
theorem Rd.own {H H' : Hp} {p C : Addr} {ws ws0 : List Str} {i i0 : Nat} (r0 : Rd H p C ws0 i0) (v : VR p H H') (r : Rd H' p C ws i) {L : Addr} (n : H L = none) {o : HO} : Rd (upd H' L o) p C ws i := by
  obtain ⟨dx0, l0, h1, h2⟩ := r0.ex
  obtain ⟨dx, l, h3, h4⟩ := r.ex
  obtain ⟨n', h5⟩ := v.k _ _ _ _ h1
  rw [h5] at h3
  cases h3
  exact ⟨dx0, l0, by rw [upd_ne (fun z => by subst z; rw [h1] at n; cases n)]; exact h5, by rw [upd_ne (fun z => by subst z; rw [h2] at n; cases n)]; exact h4⟩
theorem fig_mem (c : Nat) : decide (c ∈ ("0123456789" : Str).cps.toList) = isDig c := by
  have e : ("0123456789" : Str).cps.toList = (List.range 10).map (· + 48) := by decide +kernel
  rw [e]
  unfold isDig
  refine decide_eq_decide.mpr ?_
  simp only [List.mem_map, List.mem_range]
  constructor
  · rintro ⟨j, hj, rfl⟩; omega
  · rintro ⟨h1, h2⟩; exact ⟨c - 48, by omega, by omega⟩
section
variable {P : Program} {w : World} {K : PySem.W.Frag} {mg : Str → Option Value} {base : Heap}
def spFig : Sp := fun vs H Q _ => ∃ z : Str, vs = [.str z] ∧ z.length ≤ 1000 ∧ okS z = true ∧ ∀ H', Same H H' → Q (.bl (isFig z)) H'
theorem ok_isfig (T : Tp K w mg) : FnOk P w K mg base CX0 1 T.f_isfig T.fd_isfig ["word"] spFig := by
  refine T.D_isfig.F.ok sc_isfig (fun vs H Q E h => ?_) (fun cdv A outer s H vs Q E hr h => ?_)
  · obtain ⟨z, rfl, _⟩ := h
    rfl
  · obtain ⟨z, rfl, hz, hk, q⟩ := h
    refine ⟨_, (Evl.pss_cut (ps_set (i := 1) sc_isfig.nd rfl (.inl rfl) (pe_ifExp (pt_cmpR op_eq (pe_slice sl_str (pv 0) po_none (po_some pe_int)) pe_str (nomark _)) (pe_slice sl_str (pv 0) (po_some pe_int) po_none) (pv 0)))
  (pss_cons (ps_if (PW.pt (pw_or (pt_cmpR op_eq (pv 1) pe_str (nomark _)) (pw_or1 (pt_cmpR (op_neD hr.units) (pe_lc (own := [("sign", 2)]) (g := gName 2) (by rfl) sc_isfig.nd (pi_str (pv 1)) (blkOk_by (own := [("sign", 2)]) (N := ["word", "figures", "sign"]) (sc := defScope s_isfig) (by decide +kernel)) (fun _ _ _ _ _ => (pg_name (i := 2) sc_isfig.nd rfl (.inl rfl))) (fun _ _ _ _ _ => (pts_one (pt_cmpR op_notIn_sign (pv 2) pe_str rfl))) (fun _ _ _ _ _ => (pv 2))) (pe_lst pa_nil) (nomark _)))))
  (pss_one (ps_ret pe_bl))
  pss_nil)
  (pss_one (ps_ret (pe_or (pe_cmpR op_eq (pv 0) pe_str (nomark _)) (pe_one (pe_cmpR op_ne (pe_ix ix_str (pv 1) pe_int (fun _ _ => rfl)) pe_str (nomark _)))))))), ?_⟩
    have hsz := Evl.sz_of (Nat.le_trans hz (by decide))
    have hcut : decide (V.str (cutS z none (some 1)) = V.str "-") = decide ((tl z).take 1 = [45]) := by
      have e : tl (cutS z none (some 1)) = (tl z).take 1 := by
        show ((z.cps.toList.drop (HT.sIx z.length 0 none)).take (HT.sIx z.length z.length (some 1) - HT.sIx z.length 0 none)) = z.cps.toList.take 1
        rw [HT.sIx_none, show HT.sIx z.length z.length (some 1) = min 1 z.length from HT.sIx_nat z.length z.length 1, List.drop_zero, Nat.sub_zero]
        have hl : z.cps.toList.length = z.length := by simp [Str.length]
        by_cases h : 1 ≤ z.length
        · rw [Nat.min_eq_left h]
        · have : z.cps.toList = [] := List.eq_nil_of_length_eq_zero (by omega)
          rw [this]; simp
      rw [es_str, ← e]
      exact decide_eq_decide.mpr ⟨fun h => by rw [h]; decide +kernel, fun h => ext_tl (by rw [h]; decide +kernel)⟩
    have hlen : z.length = (tl z).length := len_tl z
    refine ⟨fun σ H1 => ∃ f : Str, σ = [some (.str z), some (.str f), none] ∧ H1 = H ∧ tl f = figsOf (tl z), ?_, ?_⟩
    · refine ⟨_, rfl, 1, rfl, z, rfl, hsz, rfl, _, rfl, ?_⟩
      rw [hcut]
      refine ite2 (fun h1 => ?_) (fun h1 => ?_)
      · refine ⟨_, rfl, 1, rfl, z, rfl, hsz, _, rfl, rfl, ?_⟩
        unfold figsOf
        rw [if_pos (of_decide_eq_true h1)]
        have hl : z.cps.toList.length = z.length := by simp [Str.length]
        have h3 : (tl z).take 1 = [45] := of_decide_eq_true h1
        have h2 : 1 ≤ z.length := by
          rw [← hl]
          cases e : z.cps.toList with
          | nil => have : tl z = [] := e; rw [this] at h3; cases h3
          | cons c r => simp
        show ((z.cps.toList.drop (HT.sIx z.length 0 (some 1))).take (HT.sIx z.length z.length none - HT.sIx z.length 0 (some 1))) = z.cps.toList.drop 1
        rw [HT.sIx_none, show HT.sIx z.length 0 (some 1) = min 1 z.length from HT.sIx_nat z.length 0 1, Nat.min_eq_left h2]
        exact List.take_of_length_le (by rw [List.length_drop]; omega)
      · refine ⟨_, rfl, z, rfl, rfl, ?_⟩
        unfold figsOf
        rw [if_neg (fun h => h1 (decide_eq_true h))]
    rintro _ H1 ⟨f, rfl, rfl, ef⟩
    have lf : f.length ≤ 1000 := by
      rw [len_tl, ef]
      unfold figsOf
      split
      · rw [List.length_drop]; omega
      · omega
    have eq0 : decide (V.str f = V.str "") = decide (figsOf (tl z) = []) := by
      rw [es_str, ← ef]
      exact decide_eq_decide.mpr ⟨fun h => by rw [h]; decide +kernel, fun h => ext_tl (by rw [h]; decide +kernel)⟩
    have fin : isFig z = (!decide (figsOf (tl z) = []) && ((figsOf (tl z)).all isDig && (decide (tl z = [48]) || decide ((figsOf (tl z)).head? ≠ some 48)))) := by
      unfold isFig isFigL
      rw [decide_not]
    rw [fin] at q
    show tSeq _ _ _ _ H1
    refine ⟨_, rfl, rfl, _, rfl, ?_⟩
    rw [eq0]
    refine ite2 (fun h0 => ?_) (fun h0 => ?_)
    · rw [h0] at q
      exact q _ (Same.refl _)
    have h0' := Bool.eq_false_iff.mpr h0
    rw [h0'] at q
    refine ⟨_, rfl, f, rfl, fun D nD => ?_⟩
    refine lc_it walk_str (fun i H2 => Same H1 H2 ∧ H2 D = some (.lst (((f.cps.toList.take i).filter fun c => !isDig c).map fun c => V.str ⟨#[c]⟩))) ⟨same_upd nD, upd_same⟩ (fun _ _ _ _ => trivial) ?_ ?_
    · rintro i x H2 H3 hi ⟨sm, hD⟩ ⟨rfl, c, hc, rfl⟩
      have tk : (f.cps.toList.take (i + 1)).filter (fun c => !isDig c) = (f.cps.toList.take i).filter (fun c => !isDig c) ++ (if isDig c = true then [] else [c]) := by
        rw [List.take_add_one, List.filter_append, Array.getElem?_toList, hc]
        congr 1
        show [c].filter (fun c => !isDig c) = _
        cases e : isDig c <;> simp [e]
      refine ⟨rfl, _, rfl, c, _, rfl, rfl, _, rfl, ?_⟩
      rw [fig_mem, tk]
      cases ed : isDig c with
      | true => 
        refine iteF ⟨sm, ?_⟩
        rw [if_pos rfl, List.append_nil]
        exact hD
      | false =>
        refine iteT ⟨_, rfl, _, hD, ?_, sm.own nD, ?_⟩
        · rw [List.length_map]
          have h1 := List.length_filter_le (fun c => !isDig c) (f.cps.toList.take i)
          rw [List.length_take] at h1
          have : f.cps.toList.length = f.length := by simp [Str.length]
          exact sz6 (by omega)
        · rw [upd_same, if_neg Bool.false_ne_true, List.map_append]
          rfl
    · rintro H2 ⟨sm, hD⟩
      rw [show f.cps.size = f.cps.toList.length by simp, List.take_length] at hD
      refine ⟨Nat.zero_le _, fun e2 ne2 => ?_⟩
      have s2 := same_upd (o := .lst []) ne2
      have e1 : ((f.cps.toList.filter fun c => !isDig c).map fun c => V.str ⟨#[c]⟩) = ((f.cps.toList.filter fun c => !isDig c).map fun c => (⟨#[c]⟩ : Str)).map V.str := by rw [List.map_map]; rfl
      rw [e1] at hD
      refine ⟨.list (((f.cps.toList.filter fun c => !isDig c).map fun c => (⟨#[c]⟩ : Str)).map .str), .list [], .lst (sl (s2 _ _ hD)) (zs_dp _), .lst (sl upd_same) .nil, ?_, rfl, _, rfl, ?_⟩
      · refine strs_shaped2 fun z hz => ?_
        obtain ⟨c, hc, rfl⟩ := List.mem_map.mp hz
        have hc := (List.mem_filter.mp hc).1
        have hcz : c ∈ tl z := by
          have : c ∈ figsOf (tl z) := by rw [← ef]; exact hc
          unfold figsOf at this
          split at this
          · exact List.mem_of_mem_drop this
          · exact this
        show okS ⟨#[c]⟩ = true
        rw [okS_iff]
        intro x hx
        have hx : x ∈ [c] := hx
        rw [List.mem_singleton.mp hx]
        exact okS_iff.mp hk c hcz
      have ev : PyData.eqv (.list (((f.cps.toList.filter fun c => !isDig c).map fun c => (⟨#[c]⟩ : Str)).map .str)) (.list []) = (figsOf (tl z)).all isDig := by
        rw [← ef]
        show PyData.eqvAll _ [] = f.cps.toList.all isDig
        have : ∀ l : List Nat, PyData.eqvAll (((l.filter fun c => !isDig c).map fun c => (⟨#[c]⟩ : Str)).map PyData.str) [] = l.all isDig := by
          intro l
          induction l with
          | nil => rfl
          | cons c l ih =>
            rw [List.all_cons]
            cases e : isDig c with
            | true => rw [List.filter_cons_of_neg (by simp [e]), ih, Bool.true_and]
            | false => rw [List.filter_cons_of_pos (by simp [e])]; rfl
        exact this _
      have s02 := sm.trans s2
      generalize upd H2 e2 (.lst []) = H4 at s02 ⊢
      rw [ev]
      cases ea : (figsOf (tl z)).all isDig with
      | false =>
        rw [ea] at q
        exact iteT (q _ s02)
      | true =>
        rw [ea] at q
        refine iteF (nx_ ?_)
        have eq48 : decide (V.str z = V.str "0") = decide (tl z = [48]) := by
          rw [es_str]
          exact decide_eq_decide.mpr ⟨fun h => by rw [h]; decide +kernel, fun h => ext_tl (by rw [h]; decide +kernel)⟩
        refine ⟨_, rfl, rfl, _, rfl, ?_⟩
        rw [eq48]
        cases e48 : decide (tl z = [48]) with
        | true => 
          rw [e48] at q
          exact iteT (q _ s02)
        | false =>
          rw [e48] at q
          obtain ⟨c, r, ecr⟩ : ∃ c r, figsOf (tl z) = c :: r := by
            cases e : figsOf (tl z) with
            | nil => exact absurd (decide_eq_true e) h0
            | cons c r => exact ⟨c, r, rfl⟩
          refine iteF ⟨_, rfl, f, 0, c, rfl, rfl, Evl.sz_of (by omega), by show atI (tl f) ((0 : Nat) : Int) = _; refine atI_nat ?_; rw [ef, ecr]; rfl, rfl, ?_⟩
          have q := q _ s02
          rw [ecr] at q
          have e3 : decide (V.str ⟨#[c]⟩ = V.str "0") = decide (c = 48) := by
            rw [es_str]
            refine decide_eq_decide.mpr ⟨fun h => ?_, fun h => by rw [h]; decide +kernel⟩
            have := congrArg tl h
            have : [c] = [48] := this
            exact (List.cons.inj this).1
          show Q (V.bl (!decide (V.str ⟨#[c]⟩ = V.str "0"))) _
          rw [e3, ← decide_not]
          rw [show decide ((c :: r).head? ≠ some 48) = decide (¬ c = 48) by simp] at q
          exact q
def spPeek (C : Addr) : Sp := fun vs H Q _ => ∃ (p : Addr) (ws : List Str) (i : Nat), vs = [.ref p] ∧ Rd H p C ws i ∧ ws.length ≤ 10 ^ 6 ∧ Q (.str (ws.getD i "")) H
theorem ok_peek (T : Tp K w mg) : FnOk P w K mg base CX0 1 T.f_peek T.fd_peek ["self"] (spPeek T.C_Reader) := by
  refine T.D_peek.ok sc_peek (fun vs H Q E h => ?_) (fun cdv A outer s H vs Q E hr h => ?_)
  · obtain ⟨p, ws, i, rfl, _⟩ := h
    rfl
  · obtain ⟨p, ws, i, rfl, R, hw, q⟩ := h
    obtain ⟨dx, l, hp, hl⟩ := R.ex
    refine ⟨_, (pss_one (ps_ret (pe_ifExp (pt_cmpR op_lt (pe_fld (pv 0) rfl) (pe_callB call_len_seq (by rfl) T.len PySem.boot_len (pa_cons (pe_fld (pv 0) rfl) pa_nil)) (nomark _)) (pe_ix ix_list (pe_fld (pv 0) rfl) (pe_fld (pv 0) rfl) (fun _ _ => rfl)) pe_str))), ?_⟩
    have h6 : (10 : Nat) ^ 6 = 1000000 := by decide
    refine ⟨_, rfl, p, _, dx, _, _, rfl, hp, T.cl_Reader, T.na_Reader_at, rfl, _, rfl, p, _, dx, _, _, rfl, hp, T.cl_Reader, T.na_Reader_left, rfl, l, _, rfl, .inl (sl hl), _, _, rfl, rfl, _, rfl, ?_⟩
    refine ite2 (fun h1 => ?_) (fun h1 => ?_)
    · have h1 := of_decide_eq_true h1
      rw [List.length_map] at h1
      have h1 : i < ws.length := by omega
      refine ⟨_, rfl, p, _, dx, _, _, rfl, hp, T.cl_Reader, T.na_Reader_left, rfl, _, rfl, p, _, dx, _, _, rfl, hp, T.cl_Reader, T.na_Reader_at, rfl, l, _, _, .str ws[i], rfl, rfl, sl hl, atI_nat (by rw [List.getElem?_map, List.getElem?_eq_getElem h1]; rfl), ?_⟩
      rw [List.getD_eq_getElem?_getD, List.getElem?_eq_getElem h1] at q
      exact q
    · have h1 : ¬ i < ws.length := fun h => h1 (decide_eq_true (by rw [List.length_map]; omega))
      rw [List.getD_eq_getElem?_getD, List.getElem?_eq_none (by omega)] at q
      exact q
end
theorem drop_head {ws : List Str} {i : Nat} {z : Str} {r : List Str} (h : ws.drop i = z :: r) : ws.getD i "" = z ∧ ws.drop (i + 1) = r ∧ i < ws.length := by
  have hi : i < ws.length := by
    by_cases h1 : i < ws.length
    · exact h1
    · rw [List.drop_eq_nil_of_le (by omega)] at h; cases h
  rw [List.drop_eq_getElem_cons hi] at h
  injection h with h1 h2
  refine ⟨?_, h2, hi⟩
  rw [List.getD_eq_getElem?_getD, List.getElem?_eq_getElem hi]
  exact h1
theorem drop_more {ws : List Str} {i : Nat} {a r : List Str} (h : ws.drop i = a ++ r) : ws.drop (i + a.length) = r := by
  rw [← List.drop_drop, h, List.drop_left]
theorem numd_in (s : Str) : inV (.str s) [.str "rest", .str "span", .str "times"] = (rangeOf s).isSome := by
  show (eqV (.str "rest") (.str s) || (eqV (.str "span") (.str s) || (eqV (.str "times") (.str s) || false))) = _
  unfold rangeOf rangesL
  simp only [eqV, Bool.or_false, List.find?_cons, List.find?_nil]
  have e : ∀ z : Str, (z == s) = decide (z = s) := fun z => by
    by_cases h : z = s
    · subst h; simp
    · rw [decide_eq_false h]; exact beq_eq_false_iff_ne.mpr h
  rw [e, e, e]
  cases decide (("rest" : Str) = s) <;> cases decide (("span" : Str) = s) <;> cases decide (("times" : Str) = s) <;> rfl
theorem tup_mem : ∀ {xs : List PyData} {x : PyData}, tupAll xs = true → x ∈ xs → tupD x = true
  | y :: ys, x, h, hm => by
    simp only [tupAll, Bool.and_eq_true] at h
    rcases List.mem_cons.mp hm with rfl | hm
    · exact h.1
    · exact tup_mem h.2 hm
theorem tup_take {xs : List PyData} (h : tupAll xs = true) (k : Nat) : tupAll (xs.take k) = true := by
  induction xs generalizing k with
  | nil => rw [List.take_nil]; rfl
  | cons x xs ih =>
    simp only [tupAll, Bool.and_eq_true] at h
    cases k with
    | zero => rfl
    | succ k =>
      rw [List.take_succ_cons]
      simp only [tupAll, Bool.and_eq_true]
      exact ⟨h.1, ih h.2 k⟩
theorem kinds_ne {w : Str} {ks : List Str} (h : kindsOf w = some ks) : ks ≠ [] := by
  have : ∀ q ∈ partsL, q.2 ≠ [] := by decide +kernel
  exact this _ (kindsOf_mem h)
theorem word_not {w : Str} {ks : List Str} (h : kindsOf w = some ks) : w ≠ "" ∧ w ≠ "}" ∧ w ≠ "cell" ∧ w ≠ "lock" ∧ w ≠ "channel" := by
  have : ∀ q ∈ partsL, q.1 ≠ "" ∧ q.1 ≠ "}" ∧ q.1 ≠ "cell" ∧ q.1 ≠ "lock" ∧ q.1 ≠ "channel" := by decide +kernel
  exact this _ (kindsOf_mem h)
def rSplit : V → List V → Hp → VK → Prop := fun x xs H Q => ∃ a b, x = .str a ∧ xs = [.str b] ∧ (b.length == 0) = false ∧ a.length + 2 ≤ sizeLine ∧ rNewStrs (Txt.split a b) H Q
theorem as_iList {X : Cx} {K : PySem.W.Frag} {tg e : Expr} {tl : TE} (h : PI X tg e (iList K tl)) : PI X tg e (iList K tl) := h
theorem spl_sum (s : Nat) : ∀ (l acc : List Nat), ((spl [s] 0 acc l).map fun r => r.length + 1).sum = acc.length + l.length + 1
  | [], acc => by rw [spl_nil]; simp
  | c :: r, acc => by
    rw [spl_one]
    split
    · rw [List.map_cons, List.sum_cons, spl_sum s r []]
      simp only [List.length_nil, List.length_cons]
      omega
    · rw [spl_sum s r (acc ++ [c])]
      simp only [List.length_append, List.length_cons, List.length_nil]
      omega
theorem len_sum1 : ∀ l : List (List Nat), l.length ≤ (l.map fun r => r.length + 1).sum
  | [] => Nat.le_refl _
  | x :: l => by have := len_sum1 l; rw [List.map_cons, List.sum_cons, List.length_cons]; omega
theorem mem_sum1 : ∀ {l : List (List Nat)} {x : List Nat}, x ∈ l → x.length + 1 ≤ (l.map fun r => r.length + 1).sum
  | y :: l, x, h => by
    rw [List.map_cons, List.sum_cons]
    rcases List.mem_cons.mp h with rfl | h
    · omega
    · have := mem_sum1 h; omega
theorem words_cap (rows : List (List Nat)) : (rows.flatMap fun row => (spl [32] 0 [] row).filter ne0).length ≤ (rows.map fun r => r.length + 1).sum := by
  induction rows with
  | nil => simp
  | cons r rows ih =>
    rw [List.flatMap_cons, List.length_append, List.map_cons, List.sum_cons]
    have h1 := List.length_filter_le ne0 (spl [32] 0 [] r)
    have h2 := len_sum1 (spl [32] 0 [] r)
    rw [spl_sum] at h2
    simp only [List.length_nil] at h2
    omega
theorem take_sum1 : ∀ (l : List (List Nat)) (i : Nat), ((l.take i).map fun r => r.length + 1).sum ≤ (l.map fun r => r.length + 1).sum
  | [], i => by simp
  | x :: l, 0 => by simp
  | x :: l, i + 1 => by
    have := take_sum1 l i
    rw [List.take_succ_cons, List.map_cons, List.sum_cons, List.map_cons, List.sum_cons]
    omega
section
variable {P : Program} {w : World} {K : PySem.W.Frag} {mg : Str → Option Value} {base : Heap}
def spRinit (C : Addr) : Sp := fun vs H Q _ => ∃ (p dx : Addr) (text : Str), vs = [.ref p, .str text] ∧ H p = some (.ins C dx []) ∧ text.length ≤ 10 ^ 6 ∧ ∀ H', V1 p H H' → Rd H' p C (wordsOf text) 0 → Q .non H'
theorem ok_rinit (T : Tp K w mg) : FnOk P w K mg base CX0 1 T.f_rinit T.fd_rinit ["self", "text"] (spRinit T.C_Reader) := by
  refine T.D_rinit.ok sc_rinit (fun vs H Q E h => ?_) (fun cdv A outer s H vs Q E hr h => ?_)
  · obtain ⟨p, dx, text, rfl, _⟩ := h
    rfl
  · obtain ⟨p, dx, text, rfl, hp, hlen, q⟩ := h
    have hu := hu_of hr
    refine ⟨_, (pss_cons (ps_fld (pv 0) (pe_lc2 (own := [("row", 2), ("word", 3)]) (vs1 := [3]) (g := gName 2) (g1 := gName 3) (by rfl) sc_rinit.nd (pi_list (pe_bm PySem.F.plainAttrs_str PySem.F.slot_str_split PySem.F.type_str_split mt_split (pv 1) (pa_cons pe_str pa_nil))) (blkOk_by (own := [("row", 2), ("word", 3)]) (N := ["self", "text", "row", "word"]) (sc := defScope s_rinit) (by decide +kernel)) (by decide) (fun _ _ _ _ _ => (pg_name (i := 2) sc_rinit.nd rfl (.inl rfl))) (fun _ _ _ _ _ => pts_nil) (fun _ _ _ _ _ => (as_iList (K := K) (tl := tBM K "str" rSplit (tVar 2) (tCons (tC (V.str " ")) tNil)) (pi_list (pe_bm PySem.F.plainAttrs_str PySem.F.slot_str_split PySem.F.type_str_split mt_split (pv 2) (pa_cons pe_str pa_nil))))) (fun _ _ _ _ _ => (pg_name (i := 3) sc_rinit.nd rfl (.inl rfl))) (fun _ _ _ _ _ => (pts_one (pt_cmpR op_ne (pv 3) pe_str (nomark _)))) (fun _ _ _ _ _ => (pv 3))) rfl)
  (pss_one (ps_fld (pv 0) pe_int rfl))), ?_⟩
    rw [six] at hlen
    have hlen2 : (tl text).length ≤ 1000000 := by rw [← len_tl]; exact hlen
    -- the rows, and their words
    obtain ⟨rowsC, eR⟩ : ∃ r, r = spl [10] 0 [] (tl text) := ⟨_, rfl⟩
    have eS : Txt.split text "\n" = rowsC.map SX.S := by
      rw [eR]
      exact SX.split_S (a := tl text) (b := [10]) (by simp) (by decide)
    have eW : wordsOf text = (rowsC.flatMap fun row => (spl [32] 0 [] row).filter ne0).map SX.S := by
      unfold wordsOf
      rw [eR, scn_spl (tl text) [] [] [] (fun x => by rw [List.nil_append, List.nil_append])]
      rfl
    have hsum : (rowsC.map fun r => r.length + 1).sum ≤ 1000001 := by
      rw [eR, spl_sum]
      simp only [List.length_nil]
      omega
    have hcap : ∀ i, ((rowsC.take i).flatMap fun row => (spl [32] 0 [] row).filter ne0).length ≤ 1000001 := fun i => by
      have h1 := words_cap (rowsC.take i)
      have h2 := take_sum1 rowsC i
      omega
    have hrow : ∀ r ∈ rowsC, r.length ≤ 1000000 := fun r h => by have := mem_sum1 h; omega
    show tSeq _ _ _ _ H
    refine ⟨_, rfl, rfl, text, "\n", rfl, rfl, by rfl, Nat.le_of_lt (sz6 (by omega)), fun pl npl => ⟨pl, rfl, ⟨_, sl upd_same⟩, fun L nL => ?_⟩⟩
    rw [eS] at nL ⊢
    have s1 := same_upd (o := .lst ((rowsC.map SX.S).map V.str)) npl
    have hpl : (upd H pl (.lst ((rowsC.map SX.S).map V.str))) pl = some (.lst ((rowsC.map SX.S).map V.str)) := upd_same
    generalize upd H pl (.lst ((rowsC.map SX.S).map V.str)) = H1 at s1 hpl nL ⊢
    refine walk2 (walk_list (xs := (rowsC.map SX.S).map V.str)) (fun i H2 => Same H1 H2 ∧ H2 L = some (.lst ((((rowsC.take i).flatMap fun row => (spl [32] 0 [] row).filter ne0).map SX.S).map V.str))) ⟨same_upd nL, upd_same⟩ (fun i H2 _ g => sl (g.1 _ _ hpl)) ?_ ?_
    · rintro i x H2 H3 hi ⟨sm, hL⟩ ⟨rfl, g1⟩
      rw [List.length_map, List.length_map] at hi
      rw [List.getElem?_map, List.getElem?_map, List.getElem?_eq_getElem hi] at g1
      cases g1
      have hr1 := hrow _ (List.getElem_mem hi)
      have eT : Txt.split (SX.S rowsC[i]) " " = (spl [32] 0 [] rowsC[i]).map SX.S := SX.split_S (a := rowsC[i]) (b := [32]) (by simp) (by decide)
      refine ⟨rfl, _, rfl, rfl, SX.S rowsC[i], " ", rfl, rfl, by rfl, Nat.le_of_lt (sz6 (by rw [SX.S_len]; omega)), fun rp nrp => ⟨rp, rfl, ⟨_, sl upd_same⟩, ?_⟩⟩
      rw [eT]
      have s4 := same_upd (o := .lst (((spl [32] 0 [] rowsC[i]).map SX.S).map V.str)) nrp
      have hrp : (upd H3 rp (.lst (((spl [32] 0 [] rowsC[i]).map SX.S).map V.str))) rp = some (.lst (((spl [32] 0 [] rowsC[i]).map SX.S).map V.str)) := upd_same
      generalize upd H3 rp (.lst (((spl [32] 0 [] rowsC[i]).map SX.S).map V.str)) = H4 at s4 hrp ⊢
      have hL4 := s4 _ _ hL
      have nRL : L ≠ rp := fun e => by rw [e, nrp] at hL; cases hL
      have tk : ((rowsC.take (i + 1)).flatMap fun row => (spl [32] 0 [] row).filter ne0) = ((rowsC.take i).flatMap fun row => (spl [32] 0 [] row).filter ne0) ++ (spl [32] 0 [] rowsC[i]).filter ne0 := by
        rw [List.take_add_one, List.getElem?_eq_getElem hi, List.flatMap_append]
        show _ ++ ((spl [32] 0 [] rowsC[i]).filter ne0 ++ []) = _
        rw [List.append_nil]
      have cap := hcap (i + 1)
      rw [tk, List.length_append] at cap
      refine walk2 (walk_list (xs := ((spl [32] 0 [] rowsC[i]).map SX.S).map V.str)) (fun j H5 => Same H1 H5 ∧ H5 rp = some (.lst (((spl [32] 0 [] rowsC[i]).map SX.S).map V.str)) ∧ H5 L = some (.lst (((((rowsC.take i).flatMap fun row => (spl [32] 0 [] row).filter ne0) ++ ((spl [32] 0 [] rowsC[i]).take j).filter ne0).map SX.S).map V.str))) ⟨sm.trans s4, hrp, ?_⟩ (fun j H5 _ g => sl g.2.1) ?_ ?_
      · rw [List.take_zero, List.filter_nil, List.append_nil]; exact hL4
      · rintro j y H5 H6 hj ⟨sm5, hrp5, hL5⟩ ⟨rfl, g2⟩
        rw [List.length_map, List.length_map] at hj
        rw [List.getElem?_map, List.getElem?_map, List.getElem?_eq_getElem hj] at g2
        cases g2
        have tj : ((spl [32] 0 [] rowsC[i]).take (j + 1)).filter ne0 = ((spl [32] 0 [] rowsC[i]).take j).filter ne0 ++ (if ne0 (spl [32] 0 [] rowsC[i])[j] = true then [(spl [32] 0 [] rowsC[i])[j]] else []) := by
          rw [List.take_add_one, List.getElem?_eq_getElem hj, List.filter_append]
          congr 1
          show [(spl [32] 0 [] rowsC[i])[j]].filter ne0 = _
          cases e : ne0 (spl [32] 0 [] rowsC[i])[j] <;> simp [e]
        have eN : (!decide (V.str (SX.S (spl [32] 0 [] rowsC[i])[j]) = V.str "")) = ne0 (spl [32] 0 [] rowsC[i])[j] := by
          rw [es_str]
          unfold ne0
          rw [decide_not]
          congr 1
          exact decide_eq_decide.mpr ⟨fun h => SX.S_inj h, fun h => by rw [h]; rfl⟩
        refine ⟨rfl, _, rfl, rfl, _, rfl, ?_⟩
        rw [eN]
        have capj : (((rowsC.take i).flatMap fun row => (spl [32] 0 [] row).filter ne0) ++ ((spl [32] 0 [] rowsC[i]).take j).filter ne0).length ≤ 1000001 := by
          rw [List.length_append]
          have : (((spl [32] 0 [] rowsC[i]).take j).filter ne0).length ≤ ((spl [32] 0 [] rowsC[i]).filter ne0).length := ((List.take_sublist j _).filter ne0).length_le
          omega
        cases e0 : ne0 (spl [32] 0 [] rowsC[i])[j] with
        | true =>
          refine iteT ⟨_, rfl, _, hL5, by rw [List.length_map, List.length_map]; exact sz6 (by omega), sm5.own nL, ?_, ?_⟩
          · rw [upd_ne nRL.symm]; exact hrp5
          · rw [upd_same, tj, e0, if_pos rfl, ← List.append_assoc]
            simp only [List.map_append, List.map_cons, List.map_nil]
        | false =>
          refine iteF ⟨sm5, hrp5, ?_⟩
          rw [tj, e0, if_neg Bool.false_ne_true, List.append_nil]
          exact hL5
      · rintro H5 ⟨sm5, hrp5, hL5⟩
        rw [List.length_map, List.length_map, List.take_length] at hL5
        refine ⟨sm5, ?_⟩
        rw [tk]
        exact hL5
    · rintro H2 ⟨sm, hL⟩
      rw [List.length_map, List.length_map, List.take_length, ← eW] at hL
      have s02 := s1.trans sm
      refine ⟨_, rfl, p, _, dx, _, rfl, s02 _ _ hp, T.cl_Reader, T.na_Reader_left, by decide, ?_⟩
      refine ⟨_, rfl, p, _, dx, _, rfl, upd_same, T.cl_Reader, T.na_Reader_at, by show 1 < 1000; decide, ?_⟩
      have nLp : L ≠ p := fun e => by rw [e, s1 _ _ hp] at nL; cases nL
      refine q _ (((V1.of s02).set).set) ⟨dx, L, upd_same, ?_⟩
      rw [upd_ne nLp, upd_ne nLp]
      exact hL
end
theorem put_newI {acc : List (Str × Int)} {p : Str × Int} (h : p.1 ∉ acc.map (·.1)) : putK (dI acc) (Sum.inr p.1 : Key) (.int p.2) = dI (acc ++ [p]) := by
  unfold putK
  rw [if_neg ?_]
  · unfold dI; rw [List.map_append]; rfl
  · rw [List.any_eq_true]
    rintro ⟨kv, hkv, he⟩
    unfold dI at hkv
    obtain ⟨q, hq, rfl⟩ := List.mem_map.mp hkv
    have he : (Sum.inr q.1 : Key) = Sum.inr p.1 := of_decide_eq_true he
    exact h (Sum.inr.inj he ▸ List.mem_map_of_mem hq)
theorem heads_in (s : Str) : inV (.str s) [.str "cell", .str "lock", .str "channel"] = decide (s = "cell" ∨ s = "lock" ∨ s = "channel") := by
  show (eqV (.str "cell") (.str s) || (eqV (.str "lock") (.str s) || (eqV (.str "channel") (.str s) || false))) = _
  simp only [eqV, Bool.or_false, Bool.decide_or]
  have e : ∀ z : Str, (z == s) = decide (s = z) := fun z => by
    by_cases h : s = z
    · subst h; simp
    · rw [decide_eq_false h]; exact beq_eq_false_iff_ne.mpr (Ne.symm h)
  rw [e, e, e]
theorem val_none {z : Str} {cs : List (Str × Int)} (h : z ∉ cs.map (·.1)) : valV (dI cs) (Sum.inr z : Key) = none := by
  unfold valV
  have e : (dI cs).find? (fun kv => decide (kv.1 = (Sum.inr z : Key))) = none := List.find?_eq_none.mpr fun kv hkv => by
    unfold dI at hkv
    obtain ⟨q, hq, rfl⟩ := List.mem_map.mp hkv
    intro he
    exact h (Sum.inr.inj (of_decide_eq_true he) ▸ List.mem_map_of_mem hq)
  rw [e]
  rfl
end TP
namespace TP
open PySem PySem.Spec PyProof.Rows L2 HX HB HG HU HH HD HS HV HQ HK HN HJ TL HM
/-! ### what a reader makes of words: what is read, or the words left where one can't stand -/
inductive Rr (α : Type) where
  | ok (a : α) (l : List Str)
  | bad (l : List Str)
  | out
def Rr.map {α β : Type} (f : α → β) : Rr α → Rr β
  | .ok a l => .ok (f a) l
  | .bad l => .bad l
  | .out => .out
def Rr.bind {α β : Type} (r : Rr α) (f : α → List Str → Rr β) : Rr β :=
  match r with
  | .ok a l => f a l
  | .bad l => .bad l
  | .out => .out
def nx (l : List Str) : Str := l.headD ""
def figI (z : Str) : Int := (intText? z).getD 0
def tkIf (g : Bool) (l : List Str) : Rr Str := if g = true then .ok (nx l) l.tail else .bad l
def tkW (w : Str) (l : List Str) : Rr Str := tkIf (decide (nx l = w)) l
def isKind3 (z : Str) : Bool := decide (z = "sum" ∨ z = "minus" ∨ z = "less")
def rdCalc : Nat → List Str → Rr PyData
  | 0, _ => .out
  | n + 1, l =>
    if isFig (nx l) = true then .ok (.int (figI (nx l))) l.tail
    else if nx l ≠ "(" then (tkIf (isNameL (nx l)) l).map PyData.str
    else (tkIf (isKind3 (nx l.tail)) l.tail).bind fun k l2 => (rdCalc n l2).bind fun a l3 => (rdCalc n l3).bind fun b l4 => (tkW ")" l4).bind fun _ l5 => .ok (.tuple [.str k, a, b]) l5
def rdPart (C : Nat) (f : List Str → Rr (List PyData)) (kind : Str) (l : List Str) : Rr PyData :=
  if kind = "calc" then rdCalc C l
  else if (rangeOf kind).isSome = true then (tkIf (isFig (nx l)) l).map fun z => .int (figI z)
  else if kind ≠ "body" then (tkIf (isNameL (nx l)) l).map PyData.str
  else (tkW "{" l).bind fun _ l2 => (f l2).bind fun rows l3 => (tkW "}" l3).bind fun _ l4 => .ok (.tuple rows) l4
def rdParts (g : Str → List Str → Rr PyData) : List Str → List Str → Rr (List PyData)
  | [], l => .ok [] l
  | k :: ks, l => (g k l).bind fun d l2 => (rdParts g ks l2).bind fun ds l3 => .ok (d :: ds) l3
def rdLoop (g : Str → List Str → Rr PyData) : Nat → Str → List Str → Rr (List PyData)
  | 0, _, _ => .out
  | m + 1, last, l =>
    if nx l = last then .ok [] l
    else match kindsOf (nx l) with
      | none => .bad l
      | some ks => (rdParts g ks l.tail).bind fun ds l2 => (rdLoop g m last l2).bind fun rows l3 => .ok (.tuple (.str (nx l) :: ds) :: rows) l3
def rdRows (C : Nat) : Nat → Str → List Str → Rr (List PyData)
  | 0, _, _ => .out
  | n + 1, last, l => rdLoop (rdPart C (rdRows C n "}")) (l.length + 1) last l
/-- cells, locks, channels, whether one is told twice -/
structure Hs where
  cs : List (Str × Int)
  ls : List Str
  hs : List (Str × Int)
  tw : Bool
def putS (kvs : List (Str × Int)) (z : Str) (v : Int) : List (Str × Int) := if z ∈ kvs.map (·.1) then kvs.map fun q => if q.1 = z then (z, v) else q else kvs ++ [(z, v)]
def Hs.cell (h : Hs) (z : Str) (v : Int) : Hs := { h with cs := putS h.cs z v, tw := h.tw || decide (z ∈ h.cs.map (·.1)) }
def Hs.chan (h : Hs) (z : Str) (v : Int) : Hs := { h with hs := putS h.hs z v, tw := h.tw || decide (z ∈ h.hs.map (·.1)) }
def Hs.lock (h : Hs) (z : Str) : Hs := { h with ls := h.ls ++ [z] }
def isHead (z : Str) : Bool := decide (z = "cell" ∨ z = "lock" ∨ z = "channel")
def rdHead (h : Hs) (l : List Str) : Rr Hs :=
  (tkIf (isNameL (nx l.tail)) l.tail).bind fun z l2 =>
    if nx l = "lock" then .ok (h.lock z) l2
    else (tkIf (isFig (nx l2)) l2).bind fun y l3 => .ok (if nx l = "cell" then h.cell z (figI y) else h.chan z (figI y)) l3
def rdHeads : Nat → Hs → List Str → Rr Hs
  | 0, _, _ => .out
  | m + 1, h, l => if isHead (nx l) = true then (rdHead h l).bind fun h2 l2 => rdHeads m h2 l2 else .ok h l
def rdAll (C N : Nat) (ws : List Str) : Rr (Hs × List PyData) :=
  (rdHeads (ws.length + 1) ⟨[], [], [], false⟩ ws).bind fun h l => (rdRows C N "" l).bind fun rows l2 => .ok (h, rows) l2
/-! ### figures are texts of numbers -/
theorem fig_int {z : Str} (h : isFig z = true) (hl : z.length ≤ 600) : intText? z = some (figI z) := by
  have h : isFigL (tl z) = true := h
  unfold isFigL at h
  simp only [Bool.and_eq_true, decide_eq_true_eq] at h
  obtain ⟨h1, h2, _⟩ := h
  have key : ∃ v, intText? z = some v := by
    unfold figsOf at h1 h2
    by_cases e : (tl z).take 1 = [45]
    · rw [if_pos e] at h1 h2
      obtain ⟨cs, ec⟩ : ∃ cs, tl z = 45 :: cs := by
        cases ez : tl z with
        | nil => rw [ez] at e; cases e
        | cons c cs =>
          rw [ez] at e
          have : [c] = [45] := e
          cases this
          exact ⟨cs, rfl⟩
      rw [ec] at h1 h2
      exact ⟨_, intText_neg (x := z) (cs := cs) ec (fun c hc => of_decide_eq_true (List.all_eq_true.mp h2 c hc)) h1 (by omega)⟩
    · rw [if_neg e] at h1 h2
      exact ⟨_, intText_digits (x := z) (fun c hc => of_decide_eq_true (List.all_eq_true.mp h2 c hc)) h1 (by omega)⟩
  obtain ⟨v, e⟩ := key
  unfold figI
  rw [e]
  rfl
/-! ### a reader at words -/
structure Rl (H : Hp) (p C : Addr) (ws l : List Str) : Prop where
  ex : ∃ i, Rd H p C ws i ∧ i ≤ ws.length ∧ ws.drop i = l
theorem Rl.same {H H' : Hp} {p C : Addr} {ws l : List Str} (r : Rl H p C ws l) (s : Same H H') : Rl H' p C ws l := let ⟨i, h1, h2, h3⟩ := r.ex; ⟨i, h1.same s, h2, h3⟩
theorem Rl.len {H : Hp} {p C : Addr} {ws l : List Str} (r : Rl H p C ws l) : l.length ≤ ws.length := by
  obtain ⟨i, _, _, rfl⟩ := r.ex
  rw [List.length_drop]
  omega
theorem nx_drop {ws : List Str} {i : Nat} : ws.getD i "" = nx (ws.drop i) := by
  unfold nx
  rw [List.getD_eq_getElem?_getD, List.headD_eq_head?_getD, List.head?_drop]
theorem Rl.mem {H : Hp} {p C : Addr} {ws l : List Str} (r : Rl H p C ws l) : nx l = "" ∨ nx l ∈ ws := by
  obtain ⟨i, _, _, rfl⟩ := r.ex
  cases e : ws.drop i with
  | nil => exact .inl rfl
  | cons z l => exact .inr (List.mem_of_mem_drop (i := i) (by rw [e]; exact List.mem_cons_self ..))
/-- of signs that are signs, and none too long -/
def WsOk (ws : List Str) : Prop := ws.length ≤ 10 ^ 6 ∧ ∀ z ∈ ws, z.length ≤ 600 ∧ okS z = true
theorem Rl.ok {H : Hp} {p C : Addr} {ws l : List Str} (r : Rl H p C ws l) (w : WsOk ws) : (nx l).length ≤ 600 ∧ okS (nx l) = true := by
  rcases r.mem with h | h
  · rw [h]; exact ⟨by decide, by decide +kernel⟩
  · exact w.2 _ h
theorem Rl.own {H H' : Hp} {p C : Addr} {ws l l0 : List Str} (r0 : Rl H p C ws l0) (v : VR p H H') (r : Rl H' p C ws l) {L : Addr} (n : H L = none) {o : HO} : Rl (upd H' L o) p C ws l := by
  obtain ⟨i0, h0, _, _⟩ := r0.ex
  obtain ⟨i, h1, h2, h3⟩ := r.ex
  exact ⟨i, h0.own v h1 n, h2, h3⟩
theorem Rl.ins {H : Hp} {p C : Addr} {ws l : List Str} (r : Rl H p C ws l) : ∃ dx l1 n, H p = some (.ins C dx [("left", .ref l1), ("at", n)]) := by
  obtain ⟨i, h1, _, _⟩ := r.ex
  obtain ⟨dx, l1, h, _⟩ := h1.ex
  exact ⟨dx, l1, _, h⟩
/-- what a reader's method wishes -/
def Out {α : Type} (C CE p : Addr) (ws : List Str) (H : Hp) (Q : VK) (E : XK) (R : α → V → Hp → Prop) : Rr α → Prop
  | .ok a l => ∀ v H', VR p H H' → R a v H' → Rl H' p C ws l → Q v H'
  | .bad l => ∀ dd H', VR p H H' → H' dd = some (.xd [("at", .int ((ws.length - l.length : Nat) : Int))]) → E (.ref CE) (some dd) H'
  | .out => False
theorem Out.tr {α : Type} {C CE p : Addr} {ws : List Str} {H H1 : Hp} {Q : VK} {E : XK} {R : α → V → Hp → Prop} {r : Rr α} (v : VR p H H1) (o : Out C CE p ws H Q E R r) : Out C CE p ws H1 Q E R r := by
  cases r with
  | ok a l => exact fun x H' v' => o x H' (v.tr v')
  | bad l => exact fun x H' v' => o x H' (v.tr v')
  | out => exact o
end TP
namespace TP
open PySem PySem.Spec PyProof.Rows L2 HX HB HG HU HH HD HS HV HQ HK HN HJ TL HM
section
variable {P : Program} {w : World} {K : PySem.W.Frag} {mg : Str → Option Value} {base : Heap}
theorem ok_nt (T : Tp K w mg) : FnOk P w K mg base CX0 1 T.f_nt T.fd_nt ["self", "at"] (spEx T.C_NoText "at") := by
  refine T.D_nt.ok sc_nt (fun vs H Q E h => ?_) (fun cdv A outer s H vs Q E hr h => ?_)
  · obtain ⟨a, y, rfl, _⟩ := h
    rfl
  · obtain ⟨a, y, rfl, ha, q⟩ := h
    refine ⟨_, (pss_cons (ps_expr (HY.pe_baseinit T.bs_YardError (by rfl) T.gC_YardError (pa_cons (pv 0) (pa_cons pe_str pa_nil))))
  (pss_one (ps_ost (pv 0) (pv 1)))), ?_⟩
    exact ⟨_, rfl, a, T.C_NoText, [.str "no text"], rfl, by decide, T.x_NoText, ha, _, rfl, _, rfl, a, T.C_NoText, rfl, T.x_NoText, T.na_NoText_at, .inl ⟨ha, q⟩⟩
/-- a word taken -/
def spTif (C CE : Addr) : Sp := fun vs H Q E => ∃ (p : Addr) (ws l : List Str) (g : Bool), vs = [.ref p, .bl g] ∧ Rl H p C ws l ∧ WsOk ws ∧ (g = true → l ≠ []) ∧ Out C CE p ws H Q E (fun z v _ => v = .str z) (tkIf g l)
theorem ok_takeif (T : Tp K w mg) : FnOk P w K mg base (L2.CX P w) 3 T.f_takeif T.fd_takeif ["self", "good"] (spTif T.C_Reader T.C_NoText) := by
  refine T.D_takeif.okX sc_takeif (fun vs H Q E h => ?_) (fun cdv A outer s H vs Q E hr h => ?_)
  · obtain ⟨p, ws, l, g, rfl, _⟩ := h
    rfl
  · obtain ⟨p, ws, l, g, rfl, R, hw, hg, q⟩ := h
    obtain ⟨i, Ri, hi, rfl⟩ := R.ex
    refine ⟨_, (pss_cons (ps_set (i := 2) sc_takeif.nd rfl (.inl rfl) (pe_meth0 (pv 0) T.cl_Reader T.m_peek (ok_peek T) (hr.mono (by decide)) T.b_peek .nil pass0))
  (pss_cons (ps_if (pt_not (pt_val (pv 1)))
  (pss_one (ps_raise rfl (takes_of rfl rfl rfl rfl) (pmk_oex T.x_NoText T.i_NoText T.ti_NoText (ok_nt T) (hr.mono (by decide)) T.b_nt .nil pass0 (by rfl) T.gC_NoText (pa_cons (pe_fld (pv 0) rfl) pa_nil))))
  pss_nil)
  (pss_cons (ps_fldaug (pv 0) pe_int in_add)
  (pss_one (ps_ret (pv 2)))))), ?_⟩
    obtain ⟨dx, l, hp, hl⟩ := Ri.ex
    refine ⟨_, rfl, p, dx, _, rfl, hp, rfl, p, ws, i, rfl, Ri, hw.1, ?_⟩
    refine ⟨_, rfl, g, rfl, ?_⟩
    cases g with
    | false =>
      refine iteT ?_
      refine ⟨_, rfl, p, _, dx, _, _, rfl, hp, T.cl_Reader, T.na_Reader_at, rfl, mkO_of fun dd nd => ?_⟩
      have hlen : (ws.length - (ws.drop i).length : Nat) = i := by rw [List.length_drop]; omega
      refine q dd _ (VR.of (same_upd nd)) ?_
      rw [upd_same, hlen]
    | true =>
      refine iteF (nx_ ?_)
      have h2 : i < ws.length := by
        have := hg rfl
        by_cases h : i < ws.length
        · exact h
        · exact absurd (List.drop_eq_nil_of_le (by omega)) this
      refine ⟨_, rfl, p, _, dx, _, _, rfl, hp, T.cl_Reader, T.na_Reader_at, rfl, _, _, rfl, rfl, dx, _, hp, by show 2 < 1000; decide, _, rfl, ?_⟩
      refine q _ _ (VR.set hp) (by rw [nx_drop]) ⟨i + 1, ⟨dx, l, upd_same, ?_⟩, h2, by rw [List.tail_drop]⟩
      rw [upd_ne (fun e => by rw [e, hp] at hl; cases hl)]
      exact hl
def spTword (C CE : Addr) : Sp := fun vs H Q E => ∃ (p : Addr) (ws l : List Str) (z : Str), vs = [.ref p, .str z] ∧ Rl H p C ws l ∧ WsOk ws ∧ z ≠ "" ∧ Out C CE p ws H Q E (fun _ v _ => v = .non) (tkW z l)
theorem ok_takeword (T : Tp K w mg) : FnOk P w K mg base (L2.CX P w) 4 T.f_takeword T.fd_takeword ["self", "word"] (spTword T.C_Reader T.C_NoText) := by
  refine T.D_takeword.okX sc_takeword (fun vs H Q E h => ?_) (fun cdv A outer s H vs Q E hr h => ?_)
  · obtain ⟨p, ws, l, z, rfl, _⟩ := h
    rfl
  · obtain ⟨p, ws, l, z, rfl, R, hw, hz, q⟩ := h
    obtain ⟨i, Ri, hi, el⟩ := R.ex
    refine ⟨_, (pss_one (ps_expr (pe_meth (pv 0) T.cl_Reader T.m_takeif (ok_takeif T) (hr.mono (by omega)) T.b_takeif .nil (HAH.passX rfl rfl rfl rfl) (pa_cons (pe_cmpR op_eq (pe_meth0 (pv 0) T.cl_Reader T.m_peek (ok_peek T) (hr.mono (by omega)) T.b_peek .nil pass0) (pv 1) (nomark _)) pa_nil)))), ?_⟩
    obtain ⟨dx, l1, hp, hl⟩ := Ri.ex
    refine ⟨_, rfl, p, dx, _, rfl, hp, rfl, _, rfl, p, dx, _, rfl, hp, rfl, p, ws, i, rfl, Ri, hw.1, _, rfl, rfl, ?_⟩
    refine ⟨p, ws, l, decide (nx l = z), by rw [nx_drop, el, es_str]; rfl, R, hw, fun h => ?_, ?_⟩
    · intro e
      have h := of_decide_eq_true h
      rw [e] at h
      exact hz h.symm
    · unfold tkW at q
      unfold tkIf at q ⊢
      split
      · rename_i h
        rw [if_pos h] at q
        exact fun v H' v' e R' => q .non H' v' rfl R'
      · rename_i h
        rw [if_neg h] at q
        exact q
def spTname (C CE : Addr) : Sp := fun vs H Q E => ∃ (p : Addr) (ws l : List Str), vs = [.ref p] ∧ Rl H p C ws l ∧ WsOk ws ∧ Out C CE p ws H Q E (fun z v _ => v = .str z) (tkIf (isNameL (nx l)) l)
theorem ok_takename (T : Tp K w mg) : FnOk P w K mg base (L2.CX P w) 4 T.f_takename T.fd_takename ["self"] (spTname T.C_Reader T.C_NoText) := by
  refine T.D_takename.okX sc_takename (fun vs H Q E h => ?_) (fun cdv A outer s H vs Q E hr h => ?_)
  · obtain ⟨p, ws, l, rfl, _⟩ := h
    rfl
  · obtain ⟨p, ws, l, rfl, R, hw, q⟩ := h
    obtain ⟨i, Ri, hi, el⟩ := R.ex
    refine ⟨_, (pss_one (ps_ret (pe_meth (pv 0) T.cl_Reader T.m_takeif (ok_takeif T) (hr.mono (by omega)) T.b_takeif .nil (HAH.passX rfl rfl rfl rfl) (pa_cons (pcall T.D_isname (ok_isname T) (hr.mono (by omega)) (by rfl) (pa_cons (pe_meth0 (pv 0) T.cl_Reader T.m_peek (ok_peek T) (hr.mono (by omega)) T.b_peek .nil pass0) pa_nil)) pa_nil)))), ?_⟩
    obtain ⟨dx, l1, hp, hl⟩ := Ri.ex
    refine ⟨_, rfl, p, dx, _, rfl, hp, rfl, _, rfl, p, dx, _, rfl, hp, rfl, p, ws, i, rfl, Ri, hw.1, ?_⟩
    rw [nx_drop, el]
    refine ⟨_, .str (nx l), rfl, .str _, ?_, fun H1 s1 => ?_⟩
    · have := (R.ok hw).1
      show decide ((nx l).length ≤ 100000) = true
      exact decide_eq_true (by omega)
    refine ⟨p, ws, l, isNameL (nx l), rfl, R.same s1, hw, fun h e => ?_, q.tr (VR.of s1)⟩
    rw [e] at h
    exact absurd h (by decide +kernel)
def spTnum (C CE : Addr) : Sp := fun vs H Q E => ∃ (p : Addr) (ws l : List Str), vs = [.ref p] ∧ Rl H p C ws l ∧ WsOk ws ∧ Out C CE p ws H Q E (fun z v _ => v = .int (figI z)) (tkIf (isFig (nx l)) l)
theorem fig_ne {l : List Str} (h : isFig (nx l) = true) : l ≠ [] := fun e => by
  rw [e] at h
  exact absurd h (by decide +kernel)
theorem ok_takenum (T : Tp K w mg) : FnOk P w K mg base (L2.CX P w) 4 T.f_takenum T.fd_takenum ["self"] (spTnum T.C_Reader T.C_NoText) := by
  refine T.D_takenum.okX sc_takenum (fun vs H Q E h => ?_) (fun cdv A outer s H vs Q E hr h => ?_)
  · obtain ⟨p, ws, l, rfl, _⟩ := h
    rfl
  · obtain ⟨p, ws, l, rfl, R, hw, q⟩ := h
    obtain ⟨i, Ri, hi, el⟩ := R.ex
    refine ⟨_, (pss_one (ps_ret (pe_callTy call_int_str (by rfl) T.int (by decide +kernel) (pa_cons (pe_meth (pv 0) T.cl_Reader T.m_takeif (ok_takeif T) (hr.mono (by omega)) T.b_takeif .nil (HAH.passX rfl rfl rfl rfl) (pa_cons (pcall T.D_isfig (ok_isfig T) (hr.mono (by omega)) (by rfl) (pa_cons (pe_meth0 (pv 0) T.cl_Reader T.m_peek (ok_peek T) (hr.mono (by omega)) T.b_peek .nil pass0) pa_nil)) pa_nil)) pa_nil)))), ?_⟩
    obtain ⟨dx, l1, hp, hl⟩ := Ri.ex
    refine ⟨_, rfl, p, dx, _, rfl, hp, rfl, _, rfl, p, dx, _, rfl, hp, rfl, p, ws, i, rfl, Ri, hw.1, ?_⟩
    rw [nx_drop, el]
    have ho := R.ok hw
    refine ⟨_, rfl, by omega, ho.2, fun H1 s1 => ?_⟩
    refine ⟨p, ws, l, isFig (nx l), rfl, R.same s1, hw, fig_ne, ?_⟩
    have q := q.tr (VR.of s1)
    unfold tkIf at q ⊢
    split
    · rename_i h
      rw [if_pos h] at q
      rintro v H' v' rfl R'
      exact ⟨_, figI (nx l), rfl, fig_int h ho.1, by omega, q _ H' v' rfl R'⟩
    · rename_i h
      rw [if_neg h] at q
      exact q
end
end TP
namespace TP
open PySem PySem.Spec PyProof.Rows L2 HX HB HG HU HH HD HS HV HQ HK HN HJ TL HM
theorem Rr.bind_ok {α β : Type} {r : Rr α} {f : α → List Str → Rr β} {b : β} {l : List Str} (h : r.bind f = .ok b l) : ∃ a l2, r = .ok a l2 ∧ f a l2 = .ok b l := by
  cases r with
  | ok a l2 => exact ⟨a, l2, rfl, h⟩
  | bad l2 => cases h
  | out => cases h
theorem Rr.map_ok {α β : Type} {r : Rr α} {f : α → β} {b : β} {l : List Str} (h : r.map f = .ok b l) : ∃ a, r = .ok a l ∧ b = f a := by
  cases r with
  | ok a l2 => cases h; exact ⟨a, rfl, rfl⟩
  | bad l2 => cases h
  | out => cases h
theorem tkIf_ok {g : Bool} {l l2 : List Str} {z : Str} (h : tkIf g l = .ok z l2) : g = true ∧ z = nx l ∧ l2 = l.tail := by
  unfold tkIf at h
  split at h
  · rename_i hg
    cases h
    exact ⟨hg, rfl, rfl⟩
  · cases h
theorem Out.bind {α β : Type} {C CE p : Addr} {ws : List Str} {H : Hp} {Q Q' : VK} {E : XK} {R : α → V → Hp → Prop} {R' : β → V → Hp → Prop} {r : Rr α} {f : α → List Str → Rr β} (h : Out C CE p ws H Q E R' (r.bind f))
    (k : ∀ a l, r = .ok a l → ∀ v H', VR p H H' → R a v H' → Rl H' p C ws l → Out C CE p ws H' Q E R' (f a l) → Q' v H') : Out C CE p ws H Q' E R r := by
  cases r with
  | ok a l => exact fun v H' v' hr R' => k a l rfl v H' v' hr R' (Out.tr v' h)
  | bad l => exact h
  | out => exact h
theorem Out.map {α β : Type} {C CE p : Addr} {ws : List Str} {H : Hp} {Q : VK} {E : XK} {R : α → V → Hp → Prop} {R' : β → V → Hp → Prop} {r : Rr α} {f : α → β} (h : Out C CE p ws H Q E R' (r.map f))
    (k : ∀ a v H', R a v H' → R' (f a) v H') : Out C CE p ws H Q E R r := by
  cases r with
  | ok a l => exact fun v H' v' hr R' => h v H' v' (k _ _ _ hr) R'
  | bad l => exact h
  | out => exact h
theorem calc_tup : ∀ (n : Nat) {l l2 : List Str} {d : PyData}, rdCalc n l = .ok d l2 → tupD d = true
  | 0, l, l2, d, h => by cases h
  | n + 1, l, l2, d, h => by
    unfold rdCalc at h
    split at h
    · cases h; rfl
    · split at h
      · obtain ⟨z, _, rfl⟩ := Rr.map_ok h
        rfl
      · obtain ⟨k, l3, _, h⟩ := Rr.bind_ok h
        obtain ⟨a, l4, ha, h⟩ := Rr.bind_ok h
        obtain ⟨b, l5, hb, h⟩ := Rr.bind_ok h
        obtain ⟨_, l6, _, h⟩ := Rr.bind_ok h
        cases h
        show (true && (tupD a && (tupD b && true))) = true
        rw [calc_tup n ha, calc_tup n hb]
        rfl
section
variable {P : Program} {w : World} {K : PySem.W.Frag} {mg : Str → Option Value} {base : Heap}
abbrev RD (K : PySem.W.Frag) : PyData → V → Hp → Prop := fun d v H' => Dp K H' v d
def spTcalc (K : PySem.W.Frag) (C CE : Addr) (n : Nat) : Sp := fun vs H Q E => ∃ (p : Addr) (ws l : List Str), vs = [.ref p] ∧ Rl H p C ws l ∧ WsOk ws ∧ Out C CE p ws H Q E (RD K) (rdCalc n l)
theorem ok_takecalc (T : Tp K w mg) : ∀ n, FnOk P w K mg base (L2.CX P w) (n + 4 + 1) T.f_takecalc T.fd_takecalc ["self"] (spTcalc K T.C_Reader T.C_NoText n) := rec_fn (c := 4) (sp := spTcalc K T.C_Reader T.C_NoText) fun n ih => by
  refine T.D_takecalc.okX sc_takecalc (fun vs H Q E h => ?_) (fun cdv A outer s H vs Q E hr h => ?_)
  · obtain ⟨p, ws, l, rfl, _⟩ := h
    rfl
  · obtain ⟨p, ws, l, rfl, R, hw, q⟩ := h
    cases n with
    | zero => exact q.elim
    | succ n =>
    refine ⟨_, (pss_cons (ps_if (pt_val (pcall T.D_isfig (ok_isfig T) (hr.mono (by omega)) (by rfl) (pa_cons (pe_meth0 (pv 0) T.cl_Reader T.m_peek (ok_peek T) (hr.mono (by omega)) T.b_peek .nil pass0) pa_nil)))
  (pss_one (ps_ret (pe_meth0 (pv 0) T.cl_Reader T.m_takenum (ok_takenum T) (hr.mono (by omega)) T.b_takenum .nil (HAH.passX rfl rfl rfl rfl))))
  pss_nil)
  (pss_cons (ps_if (pt_cmpR op_ne (pe_meth0 (pv 0) T.cl_Reader T.m_peek (ok_peek T) (hr.mono (by omega)) T.b_peek .nil pass0) pe_str (nomark _))
  (pss_one (ps_ret (pe_meth0 (pv 0) T.cl_Reader T.m_takename (ok_takename T) (hr.mono (by omega)) T.b_takename .nil (HAH.passX rfl rfl rfl rfl))))
  pss_nil)
  (pss_cons (ps_expr (pe_meth (pv 0) T.cl_Reader T.m_takeword (ok_takeword T) (hr.mono (by omega)) T.b_takeword .nil (HAH.passX rfl rfl rfl rfl) (pa_cons pe_str pa_nil)))
  (pss_cons (ps_set (i := 1) sc_takecalc.nd rfl (.inl rfl) (pe_meth (pv 0) T.cl_Reader T.m_takeif (ok_takeif T) (hr.mono (by omega)) T.b_takeif .nil (HAH.passX rfl rfl rfl rfl) (pa_cons (pe_cmpR op_in_seq (pe_meth0 (pv 0) T.cl_Reader T.m_peek (ok_peek T) (hr.mono (by omega)) T.b_peek .nil pass0) (pe_gr (by rfl) T.c_KINDS) (by rfl)) pa_nil)))
  (pss_cons (ps_set (i := 2) sc_takecalc.nd rfl (.inl rfl) (pe_meth0 (pv 0) T.cl_Reader T.m_takecalc ih (hr.mono (by omega)) T.b_takecalc .nil (HAH.passX rfl rfl rfl rfl)))
  (pss_cons (ps_set (i := 3) sc_takecalc.nd rfl (.inl rfl) (pe_meth0 (pv 0) T.cl_Reader T.m_takecalc ih (hr.mono (by omega)) T.b_takecalc .nil (HAH.passX rfl rfl rfl rfl)))
  (pss_cons (ps_expr (pe_meth (pv 0) T.cl_Reader T.m_takeword (ok_takeword T) (hr.mono (by omega)) T.b_takeword .nil (HAH.passX rfl rfl rfl rfl) (pa_cons pe_str pa_nil)))
  (pss_one (ps_ret (pe_tup (pa_cons (pv 1) (pa_cons (pv 2) (pa_cons (pv 3) pa_nil))))))))))))), ?_⟩
    obtain ⟨dx, l1, i1, hp⟩ := R.ins
    have ho := R.ok hw
    obtain ⟨i, Ri, hi, el⟩ := R.ex
    unfold rdCalc at q
    refine ⟨_, rfl, p, dx, _, rfl, hp, rfl, p, ws, i, rfl, Ri, hw.1, nx l, by rw [nx_drop, el]; rfl, by omega, ho.2, fun H1 s1 => ⟨_, rfl, ?_⟩⟩
    have R1 := R.same s1
    have hp1 := s1 _ _ hp
    refine ite2 (fun h1 => ?_) (fun h1 => ?_)
    · rw [if_pos h1] at q
      refine ⟨_, rfl, p, dx, _, rfl, hp1, rfl, p, ws, l, rfl, R1, hw, ?_⟩
      unfold tkIf
      rw [if_pos h1]
      rintro v H2 v2 rfl R2
      exact q _ H2 ((VR.of s1).tr v2) (.int _) R2
    rw [if_neg h1] at q
    refine nx_ ?_
    obtain ⟨j, Rj, hj, ej⟩ := R1.ex
    refine ⟨_, rfl, p, dx, _, rfl, hp1, rfl, p, ws, j, rfl, Rj, hw.1, rfl, _, rfl, ?_⟩
    rw [nx_drop, ej, es_str]
    by_cases h2 : nx l = "("
    · rw [decide_eq_true h2]
      rw [if_neg (fun h => h h2)] at q
      refine iteF (nx_ ?_)
      have lne : l ≠ [] := fun e => by rw [e] at h2; exact absurd h2 (by decide +kernel)
      -- (
      refine ⟨_, rfl, p, dx, _, rfl, hp1, rfl, p, ws, l, "(", rfl, R1, hw, by decide +kernel, ?_⟩
      unfold tkW tkIf
      rw [if_pos (decide_eq_true h2)]
      rintro v H2 v2 rfl R2
      refine nx_ ?_
      have q := q.tr ((VR.of s1).tr v2)
      obtain ⟨dx2, l2, i2, hp2⟩ := R2.ins
      obtain ⟨k2, Rk2, hk2, ek2⟩ := R2.ex
      -- the kind
      refine ⟨_, rfl, p, dx2, _, rfl, hp2, rfl, _, rfl, p, dx2, _, rfl, hp2, rfl, p, ws, k2, rfl, Rk2, hw.1, ?_⟩
      rw [nx_drop, ek2]
      refine ⟨_, _, rfl, .inr (T.t_KINDS H2), rfl, rfl, ?_⟩
      rw [if_neg Bool.false_ne_true, kinds_in]
      refine ⟨p, ws, l.tail, isKind3 (nx l.tail), rfl, R2, hw, fun h e => ?_, q.bind fun k l3 ek v3 H3 v3' ev3 R3 q => ?_⟩
      · rw [e] at h
        exact absurd h (by decide +kernel)
      subst ev3
      -- one
      obtain ⟨dx3, l3', i3, hp3⟩ := R3.ins
      refine ⟨_, rfl, p, dx3, _, rfl, hp3, rfl, p, ws, l3, rfl, R3, hw, q.bind fun a l4 ea va H4 v4 da R4 q => ?_⟩
      -- other
      obtain ⟨dx4, l4', i4, hp4⟩ := R4.ins
      refine ⟨_, rfl, p, dx4, _, rfl, hp4, rfl, p, ws, l4, rfl, R4, hw, q.bind fun b l5 eb vb H5 v5 db R5 q => ?_⟩
      obtain ⟨dx5, l5', i5, hp5⟩ := R5.ins
      refine nx_ ?_
      refine ⟨_, rfl, p, dx5, _, rfl, hp5, rfl, p, ws, l5, ")", rfl, R5, hw, by decide +kernel, q.bind fun z l6 ez vz H6 v6 ev6 R6 q => nx_ ?_⟩
      subst ev6
      have da5 : Dp K H5 va a := v5.dp hp4 (calc_tup n ea) da
      have da6 : Dp K H6 va a := v6.dp hp5 (calc_tup n ea) da5
      have db6 : Dp K H6 vb b := v6.dp hp5 (calc_tup n eb) db
      refine ⟨_, rfl, _, rfl, _, rfl, by show 3 ≤ sizeLine; decide, fun t nt => ?_⟩
      obtain ⟨s7, d7⟩ := new_tup (K := K) nt (.cons (.str k) (.cons da6 (.cons db6 .nil)))
      exact q _ _ (VR.of s7) d7 (R6.same s7)
    · rw [decide_eq_false h2]
      rw [if_pos h2] at q
      refine iteT ?_
      exact ⟨_, rfl, p, dx, _, rfl, hp1, rfl, p, ws, l, rfl, R1, hw, (q.tr (VR.of s1)).map fun z v H' e => by subst e; exact .str z⟩
end
end TP
namespace TP
open PySem PySem.Spec PyProof.Rows L2 HX HB HG HU HH HD HS HV HQ HK HN HJ TL HM
theorem Rr.assoc {α β γ : Type} (r : Rr α) (f : α → List Str → Rr β) (g : β → List Str → Rr γ) : (r.bind f).bind g = r.bind fun a l => (f a l).bind g := by cases r <;> rfl
theorem Rr.bind_map {α β γ : Type} (r : Rr α) (f : α → List Str → Rr β) (g : β → γ) : (r.bind f).map g = r.bind fun a l => (f a l).map g := by cases r <;> rfl
theorem loop_cons (r : Rr (List PyData)) (rs : List PyData) (x : PyData) : ((r.bind fun rows l3 => .ok (x :: rows) l3).map fun t => rs ++ t) = r.map fun t => (rs ++ [x]) ++ t := by
  cases r with
  | ok a l => show Rr.ok (rs ++ x :: a) l = .ok ((rs ++ [x]) ++ a) l; rw [List.append_assoc]; rfl
  | bad l => rfl
  | out => rfl
theorem Out.bind0 {α β : Type} {C CE p : Addr} {ws : List Str} {H0 H : Hp} {Q Q' : VK} {E : XK} {R : α → V → Hp → Prop} {R' : β → V → Hp → Prop} {r : Rr α} {f : α → List Str → Rr β} (h : Out C CE p ws H0 Q E R' (r.bind f)) (v0 : VR p H0 H)
    (k : ∀ a l, r = .ok a l → ∀ v H', VR p H H' → R a v H' → Rl H' p C ws l → Out C CE p ws H0 Q E R' (f a l) → Q' v H') : Out C CE p ws H Q' E R r := by
  cases r with
  | ok a l => exact fun v H' v' hr R' => k a l rfl v H' v' hr R' h
  | bad l => exact fun dd H' v' e => h dd H' (v0.tr v') e
  | out => exact h
theorem rdPart_tup {C : Nat} {f : List Str → Rr (List PyData)} (hf : ∀ l ds l2, f l = .ok ds l2 → tupAll ds = true) {k : Str} {l l2 : List Str} {d : PyData} (h : rdPart C f k l = .ok d l2) : tupD d = true := by
  unfold rdPart at h
  split at h
  · exact calc_tup C h
  · split at h
    · obtain ⟨z, _, rfl⟩ := Rr.map_ok h
      rfl
    · split at h
      · obtain ⟨z, _, rfl⟩ := Rr.map_ok h
        rfl
      · obtain ⟨_, l3, _, h⟩ := Rr.bind_ok h
        obtain ⟨ds, l4, e, h⟩ := Rr.bind_ok h
        obtain ⟨_, l5, _, h⟩ := Rr.bind_ok h
        cases h
        exact hf _ _ _ e
theorem rdParts_tup {g : Str → List Str → Rr PyData} (hg : ∀ k l d l2, g k l = .ok d l2 → tupD d = true) : ∀ {ks : List Str} {l l2 : List Str} {ds : List PyData}, rdParts g ks l = .ok ds l2 → tupAll ds = true
  | [], l, l2, ds, h => by cases h; rfl
  | k :: ks, l, l2, ds, h => by
    unfold rdParts at h
    obtain ⟨d, l3, e1, h⟩ := Rr.bind_ok h
    obtain ⟨ds2, l4, e2, h⟩ := Rr.bind_ok h
    cases h
    show (tupD d && tupAll ds2) = true
    rw [hg _ _ _ _ e1, rdParts_tup hg e2]
    rfl
theorem rdLoop_tup {g : Str → List Str → Rr PyData} (hg : ∀ k l d l2, g k l = .ok d l2 → tupD d = true) : ∀ {m : Nat} {last : Str} {l l2 : List Str} {ds : List PyData}, rdLoop g m last l = .ok ds l2 → tupAll ds = true
  | 0, _, l, l2, ds, h => by cases h
  | m + 1, last, l, l2, ds, h => by
    unfold rdLoop at h
    split at h
    · cases h; rfl
    · split at h
      · cases h
      · obtain ⟨ds2, l3, e1, h⟩ := Rr.bind_ok h
        obtain ⟨rows, l4, e2, h⟩ := Rr.bind_ok h
        cases h
        show ((true && tupAll ds2) && tupAll rows) = true
        rw [rdParts_tup hg e1, rdLoop_tup hg e2]
        rfl
theorem rdRows_tup {C : Nat} : ∀ {n : Nat} {last : Str} {l l2 : List Str} {ds : List PyData}, rdRows C n last l = .ok ds l2 → tupAll ds = true
  | 0, _, l, l2, ds, h => by cases h
  | n + 1, last, l, l2, ds, h => by
    unfold rdRows at h
    exact rdLoop_tup (fun k l d l2 h => rdPart_tup (fun l ds l2 h => rdRows_tup h) h) h
section
variable {P : Program} {w : World} {K : PySem.W.Frag} {mg : Str → Option Value} {base : Heap}
abbrev RT (K : PySem.W.Frag) : List PyData → V → Hp → Prop := fun ds v H' => Dp K H' v (.tuple ds)
def spTpart (K : PySem.W.Frag) (C CE : Addr) (g : Str → List Str → Rr PyData) : Sp := fun vs H Q E => ∃ (p : Addr) (ws l : List Str) (kind : Str), vs = [.ref p, .str kind] ∧ Rl H p C ws l ∧ WsOk ws ∧ Out C CE p ws H Q E (RD K) (g kind l)
def spTrows (K : PySem.W.Frag) (C CE : Addr) (f : Str → List Str → Rr (List PyData)) : Sp := fun vs H Q E => ∃ (p : Addr) (ws l : List Str) (last : Str), vs = [.ref p, .str last] ∧ Rl H p C ws l ∧ WsOk ws ∧ Out C CE p ws H Q E (RT K) (f last l)
theorem ok_takepart (T : Tp K w mg) {C L : Nat} (hL : C + 5 ≤ L) {f : Str → List Str → Rr (List PyData)} (hf : ∀ s l ds l2, f s l = .ok ds l2 → tupAll ds = true) (hb : FnOk P w K mg base (L2.CX P w) L T.f_takerows T.fd_takerows ["self", "last"] (spTrows K T.C_Reader T.C_NoText f)) : FnOk P w K mg base (L2.CX P w) (L + 1) T.f_takepart T.fd_takepart ["self", "kind"] (spTpart K T.C_Reader T.C_NoText (rdPart C (f "}"))) := by
  refine T.D_takepart.okX sc_takepart (fun vs H Q E h => ?_) (fun cdv A outer s H vs Q E hr h => ?_)
  · obtain ⟨p, ws, l, kind, rfl, _⟩ := h
    rfl
  · obtain ⟨p, ws, l, kind, rfl, R, hw, q⟩ := h
    refine ⟨_, (pss_cons (ps_if (pt_cmpR op_eq (pv 1) pe_str (nomark _))
  (pss_one (ps_ret (pe_meth0 (pv 0) T.cl_Reader T.m_takecalc (ok_takecalc T C) (hr.mono (by omega)) T.b_takecalc .nil (HAH.passX rfl rfl rfl rfl))))
  pss_nil)
  (pss_cons (ps_if (pt_cmpR op_in_seq (pv 1) (pe_gr (by rfl) T.c_NUMBERED) (by rfl))
  (pss_one (ps_ret (pe_meth0 (pv 0) T.cl_Reader T.m_takenum (ok_takenum T) (hr.mono (by omega)) T.b_takenum .nil (HAH.passX rfl rfl rfl rfl))))
  pss_nil)
  (pss_cons (ps_if (pt_cmpR op_ne (pv 1) pe_str (nomark _))
  (pss_one (ps_ret (pe_meth0 (pv 0) T.cl_Reader T.m_takename (ok_takename T) (hr.mono (by omega)) T.b_takename .nil (HAH.passX rfl rfl rfl rfl))))
  pss_nil)
  (pss_cons (ps_expr (pe_meth (pv 0) T.cl_Reader T.m_takeword (ok_takeword T) (hr.mono (by omega)) T.b_takeword .nil (HAH.passX rfl rfl rfl rfl) (pa_cons pe_str pa_nil)))
  (pss_cons (ps_set (i := 2) sc_takepart.nd rfl (.inl rfl) (pe_meth (pv 0) T.cl_Reader T.m_takerows hb (hr.mono (by omega)) T.b_takerows .nil (HAH.passX rfl rfl rfl rfl) (pa_cons pe_str pa_nil)))
  (pss_cons (ps_expr (pe_meth (pv 0) T.cl_Reader T.m_takeword (ok_takeword T) (hr.mono (by omega)) T.b_takeword .nil (HAH.passX rfl rfl rfl rfl) (pa_cons pe_str pa_nil)))
  (pss_one (ps_ret (pv 2))))))))), ?_⟩
    obtain ⟨dx, l1, i1, hp⟩ := R.ins
    unfold rdPart at q
    refine ⟨_, rfl, rfl, _, rfl, ?_⟩
    rw [es_str]
    by_cases h1 : kind = "calc"
    · rw [decide_eq_true h1]
      rw [if_pos h1] at q
      exact iteT ⟨_, rfl, p, dx, _, rfl, hp, rfl, p, ws, l, rfl, R, hw, q⟩
    rw [decide_eq_false h1]
    rw [if_neg h1] at q
    refine iteF (nx_ ⟨_, rfl, _, _, rfl, .inr (T.t_NUMBERED H), rfl, rfl, _, rfl, ?_⟩)
    rw [if_neg Bool.false_ne_true, numd_in]
    cases er : (rangeOf kind).isSome with
    | true =>
      rw [er, if_pos rfl] at q
      exact iteT ⟨_, rfl, p, dx, _, rfl, hp, rfl, p, ws, l, rfl, R, hw, q.map fun z v H' e => by subst e; exact .int _⟩
    | false =>
      rw [er, if_neg Bool.false_ne_true] at q
      refine iteF (nx_ ?_)
      refine ⟨_, rfl, rfl, _, rfl, ?_⟩
      rw [es_str]
      by_cases h2 : kind = "body"
      · rw [decide_eq_true h2]
        rw [if_neg (fun h => h h2)] at q
        refine iteF (nx_ ?_)
        refine ⟨_, rfl, p, dx, _, rfl, hp, rfl, p, ws, l, "{", rfl, R, hw, by decide +kernel, q.bind fun z l2 ez v2 H2 v2' ev2 R2 q => nx_ ?_⟩
        obtain ⟨dx2, l2', i2, hp2⟩ := R2.ins
        refine ⟨_, rfl, p, dx2, _, rfl, hp2, rfl, p, ws, l2, "}", rfl, R2, hw, q.bind fun rows l3 er3 v3 H3 v3' d3 R3 q => ?_⟩
        obtain ⟨dx3, l3', i3, hp3⟩ := R3.ins
        refine ⟨_, rfl, p, dx3, _, rfl, hp3, rfl, p, ws, l3, "}", rfl, R3, hw, by decide +kernel, q.bind fun z l4 ez v4 H4 v4' ev4 R4 q => nx_ ?_⟩
        exact ⟨_, rfl, q _ _ VR.refl (v4'.dp hp3 (show tupD (.tuple rows) = true from hf _ _ _ _ er3) d3) R4⟩
      · rw [decide_eq_false h2]
        rw [if_pos h2] at q
        exact iteT ⟨_, rfl, p, dx, _, rfl, hp, rfl, p, ws, l, rfl, R, hw, q.map fun z v H' e => by subst e; exact .str z⟩
theorem ok_takerows1 (T : Tp K w mg) {C M n : Nat} (hM : 4 ≤ M) (ih : FnOk P w K mg base (L2.CX P w) M T.f_takepart T.fd_takepart ["self", "kind"] (spTpart K T.C_Reader T.C_NoText (rdPart C (rdRows C n "}")))) : FnOk P w K mg base (L2.CX P w) (M + 1) T.f_takerows T.fd_takerows ["self", "last"] (spTrows K T.C_Reader T.C_NoText (rdRows C (n + 1))) := by
  refine T.D_takerows.okX sc_takerows (fun vs H Q E h => ?_) (fun cdv A outer s H vs Q E hr h => ?_)
  · obtain ⟨p, ws, l, last, rfl, _⟩ := h
    rfl
  · obtain ⟨p, ws, l, last, rfl, R, hw, q⟩ := h
    have hu := hu_of hr
    have hwl := hw.1
    rw [six] at hwl
    have hll := R.len
    refine ⟨_, (pss_cons (ps_set (i := 2) sc_takerows.nd rfl (.inl rfl) (pe_lst pa_nil))
  (pss_cons (ps_while (passes_of rfl) (pt_cmpR op_ne (pe_meth0 (pv 0) T.cl_Reader T.m_peek (ok_peek T) (hr.mono (by omega)) T.b_peek .nil pass0) (pv 1) (nomark _))
  (pss_cons (ps_set (i := 3) sc_takerows.nd rfl (.inl rfl) (pe_meth (pv 0) T.cl_Reader T.m_takeif (ok_takeif T) (hr.mono (by omega)) T.b_takeif .nil (HAH.passX rfl rfl rfl rfl) (pa_cons (pe_cmpR (HD.op_in_dt T.d_PARTS) (pe_meth0 (pv 0) T.cl_Reader T.m_peek (ok_peek T) (hr.mono (by omega)) T.b_peek .nil pass0) (pe_gr (by rfl) T.c_PARTS) (by rfl)) pa_nil)))
  (pss_one (ps_expr (pe_bm PySem.F.plainAttrs_list PySem.F.slot_list_append PySem.F.type_list_append mt_append (pv 2) (pa_cons (pe_op op_catT (pe_tup (pa_cons (pv 3) pa_nil)) (pe_callTy call_tuple_of (by rfl) T.tuple (by decide +kernel) (pa_cons (HAH.pe_lcE (own := [("kind", 4)]) (g := gName 4) rfl rfl (takes_of rfl rfl rfl rfl) (by rfl) sc_takerows.nd (pi_tup (pe_ix (HD.ix_dt T.d_PARTS) (pe_gr (by rfl) T.c_PARTS) (pv 3) (fun _ _ => rfl))) (blkOk_by (own := [("kind", 4)]) (N := ["self", "last", "rows", "word", "kind"]) (sc := defScope s_takerows) (by decide +kernel)) (fun _ _ _ _ _ => (pg_name (i := 4) sc_takerows.nd rfl (.inl rfl))) (fun _ _ _ _ _ => pts_nil) (fun _ _ _ _ _ => (pe_meth (pv 0) T.cl_Reader T.m_takepart ih (hr.mono (by omega)) T.b_takepart .nil HAH.passB (pa_cons (pv 4) pa_nil)))) pa_nil))) pa_nil))))))
  (pss_one (ps_ret (pe_callTy call_tuple_of (by rfl) T.tuple (by decide +kernel) (pa_cons (pv 2) pa_nil)))))), ?_⟩
    unfold rdRows at q
    have hg : ∀ k l d l2, rdPart C (rdRows C n "}") k l = .ok d l2 → tupD d = true := fun k l d l2 h => rdPart_tup (fun l ds l2 h => rdRows_tup h) h
    generalize rdPart C (rdRows C n "}") = g at q ih hg
    refine ⟨Nat.zero_le _, fun L nL => ?_⟩
    have s1 := same_upd (o := .lst []) nL
    have hL1 : (upd H L (.lst [])) L = some (.lst []) := upd_same
    show tSeq _ _ _ _ (upd H L (.lst []))
    generalize upd H L (.lst []) = H1 at s1 hL1 ⊢
    have e0 : ((rdLoop g (l.length + 1) last l).map fun t => [] ++ t) = rdLoop g (l.length + 1) last l := by
      cases rdLoop g (l.length + 1) last l <;> rfl
    rw [← e0] at q
    refine ⟨fun m σ H2 => ∃ (l2 : List Str) (rs : List PyData) (vs : List V) (y3 y4 : Option V), m + rs.length = l.length + 1 ∧ σ = [some (.ref p), some (.str last), some (.ref L), y3, y4] ∧ VR p H H2 ∧ H2 L = some (.lst vs) ∧ DpAll K H2 vs rs ∧ tupAll rs = true ∧ Rl H2 p T.C_Reader ws l2 ∧
      Out T.C_Reader T.C_NoText p ws H Q E (RT K) ((rdLoop g m last l2).map fun t => rs ++ t), ⟨l.length + 1, l, [], [], none, none, rfl, rfl, VR.of s1, hL1, .nil, rfl, R.same s1, q⟩, ?_⟩
    clear q e0
    rintro m σ H2 ⟨l2, rs, vs, y3, y4, hm, rfl, v2, hL2, hvs, trs, R2, q⟩
    cases m with
    | zero => exact q.elim
    | succ m =>
    obtain ⟨dx2, l2', i2, hp2⟩ := R2.ins
    obtain ⟨j2, Rj2, hj2, ej2⟩ := R2.ex
    have lenv := dpAll_len hvs
    unfold rdLoop at q
    refine ⟨_, rfl, p, dx2, _, rfl, hp2, rfl, p, ws, j2, rfl, Rj2, hw.1, _, rfl, rfl, _, rfl, ?_⟩
    rw [nx_drop, ej2, es_str]
    by_cases hlast : nx l2 = last
    · rw [decide_eq_true hlast]
      rw [if_pos hlast] at q
      refine ⟨_, rfl, L, _, rfl, .inl ⟨sl hL2, fun t nt => ?_⟩⟩
      have s3 := same_upd (o := .tup vs) nt
      have q : Out T.C_Reader T.C_NoText p ws H Q E (RT K) (.ok (rs ++ []) l2) := q
      rw [List.append_nil] at q
      exact q _ _ (v2.tr (VR.of s3)) (.tup (stt upd_same) (s3.dpAll hvs)) (R2.same s3)
    · rw [decide_eq_false hlast]
      rw [if_neg hlast] at q
      refine ⟨fun σ' H' => ∃ (l3 : List Str) (rs : List PyData) (vs : List V) (y3 y4 : Option V), m + rs.length = l.length + 1 ∧ σ' = [some (.ref p), some (.str last), some (.ref L), y3, y4] ∧ VR p H H' ∧ H' L = some (.lst vs) ∧ DpAll K H' vs rs ∧ tupAll rs = true ∧ Rl H' p T.C_Reader ws l3 ∧
        Out T.C_Reader T.C_NoText p ws H Q E (RT K) ((rdLoop g m last l3).map fun t => rs ++ t), ?_, ?_⟩
      · rintro σ' H' g1
        exact ⟨m, by omega, g1⟩
      -- the row's word
      refine ⟨_, rfl, p, dx2, _, rfl, hp2, rfl, _, rfl, p, dx2, _, rfl, hp2, rfl, p, ws, j2, rfl, Rj2, hw.1, nx l2, by rw [nx_drop, ej2], rfl, ?_⟩
      have hin : decide (nx l2 ∈ partsV.map (·.1)) = (kindsOf (nx l2)).isSome := by
        cases e : kindsOf (nx l2) with
        | some ks => exact decide_eq_true (List.mem_map.mpr ⟨_, partsV_mem e, rfl⟩)
        | none =>
          refine decide_eq_false fun h => ?_
          obtain ⟨a, ha, ea⟩ := List.mem_map.mp h
          unfold partsV at ha
          obtain ⟨b, hb, rfl⟩ := List.mem_map.mp ha
          have ea : b.1 = nx l2 := ea
          unfold kindsOf at e
          rw [Option.map_eq_none_iff, List.find?_eq_none] at e
          exact e b hb (decide_eq_true ea)
      cases ek : kindsOf (nx l2) with
      | none =>
        rw [ek] at q
        exact ⟨p, ws, l2, false, by show [V.ref p, V.bl (decide (nx l2 ∈ partsV.map (·.1)))] = _; rw [hin, ek]; rfl, R2, hw, (fun h => nomatch h), fun dd H' v' e => q dd H' (v2.tr v') e⟩
      | some ks =>
      rw [ek] at q
      have hkz := ek
      have q : Out T.C_Reader T.C_NoText p ws H Q E (RT K) (((rdParts g ks l2.tail).bind fun ds l3 => (rdLoop g m last l3).bind fun rows l4 => .ok (.tuple (.str (nx l2) :: ds) :: rows) l4).map fun t => rs ++ t) := q
      rw [Rr.bind_map] at q
      have l2ne : l2 ≠ [] := fun e => (word_not hkz).1 (by rw [e]; rfl)
      refine ⟨p, ws, l2, true, by show [V.ref p, V.bl (decide (nx l2 ∈ partsV.map (·.1)))] = _; rw [hin, ek]; rfl, R2, hw, fun _ => l2ne, ?_⟩
      unfold tkIf
      rw [if_pos rfl]
      rintro v3 H3 v3' rfl R3
      have mV := partsV_mem hkz
      have hL3 : H3 L = some (.lst vs) := v3'.v _ _ hL2 (fun e => by rw [e, hp2] at hL2; cases hL2)
      have v23 := v2.tr v3'
      generalize nx l2 = z at hkz mV q
      refine ⟨_, rfl, .inl ⟨rfl, _, sl hL3⟩, _, rfl, by show 1 ≤ sizeLine; decide, fun t1 nt1 => ?_⟩
      have s4 := same_upd (o := .tup [V.str z]) nt1
      have ht1 : (upd H3 t1 (.tup [V.str z])) t1 = some (.tup [V.str z]) := upd_same
      generalize upd H3 t1 (.tup [V.str z]) = H4 at s4 ht1 ⊢
      have R4 := R3.same s4
      have v04 := v23.tr (VR.of s4)
      obtain ⟨dx4, l4', i4, hp4⟩ := R4.ins
      refine ⟨_, rfl, _, mV, rfl, rfl, fun t ht => ⟨t, rfl, ⟨_, ht H4⟩, fun D nD => ?_⟩⟩
      refine lc_it (walk_tup (xs := ks.map V.str)) (fun j H5 => ∃ (us : List V) (ds0 : List PyData) (l5 : List Str), VR p H4 H5 ∧ H5 D = some (.lst us) ∧ DpAll K H5 us ds0 ∧ tupAll ds0 = true ∧ ds0.length = j ∧ Rl H5 p T.C_Reader ws l5 ∧
        Out T.C_Reader T.C_NoText p ws H Q E (RT K) ((rdParts g (ks.drop j) l5).bind fun ds l3 => ((rdLoop g m last l3).bind fun rows l4 => .ok (.tuple (.str z :: (ds0 ++ ds)) :: rows) l4).map fun t => rs ++ t)) ⟨[], [], _, VR.of (same_upd nD), upd_same, .nil, rfl, rfl, R4.same (same_upd nD), q⟩ (fun j H5 _ g => ht H5) ?_ ?_
      · rintro j x H5z H5 hj ⟨us, ds0, l5, v5, hD5, hus, tds, ln, R5, q⟩ ⟨rfl, gx⟩
        rw [List.length_map] at hj
        rw [List.getElem?_map, List.getElem?_eq_getElem hj] at gx
        cases gx
        obtain ⟨dx5, l5', i5, hp5⟩ := R5.ins
        rw [List.drop_eq_getElem_cons hj] at q
        have e : rdParts g (ks[j] :: ks.drop (j + 1)) l5 = (g ks[j] l5).bind fun d l6 => (rdParts g (ks.drop (j + 1)) l6).bind fun ds l7 => .ok (d :: ds) l7 := rfl
        rw [e, Rr.assoc] at q
        have hlus := dpAll_len hus
        refine ⟨rfl, _, rfl, p, dx5, _, rfl, hp5, rfl, _, rfl, p, ws, l5, ks[j], rfl, R5, hw, q.bind0 (v04.tr v5) fun d l6 ed v H6 v6 dv6 R6 q => ?_⟩
        rw [Rr.assoc] at q
        have hD6 : H6 D = some (.lst us) := v6.v _ _ hD5 (fun e => by rw [e, hp5] at hD5; cases hD5)
        have v46 := v5.tr v6
        have htq := hg _ _ _ _ ed
        refine ⟨us, hD6, small1000 (by have := kinds_len hkz; omega), us ++ [v], ds0 ++ [d], l6, v46.own nD, upd_same, ?_, ?_, ?_, R4.own v46 R6 nD, ?_⟩
        · refine dpAll_app ?_ (.cons ?_ .nil)
          · exact dpAll_keep (fun _ _ h => sqt_setl hD6 (v6.sqt hp5 h)) tds hus
          · exact dp_keep (fun _ _ h => sqt_setl hD6 h) htq dv6
        · exact tupAll_app tds (by show (tupD d && true) = true; rw [htq]; rfl)
        · rw [List.length_append, ln]; rfl
        · have e2 : ∀ ds : List PyData, (ds0 ++ [d]) ++ ds = ds0 ++ d :: ds := fun ds => by rw [List.append_assoc]; rfl
          simp only [e2]
          exact q
      · rintro H5 ⟨us, ds0, l5, v5, hD5, hus, tds, ln, R5, q⟩
        rw [List.length_map] at ln q
        rw [List.drop_length] at q
        have q : Out T.C_Reader T.C_NoText p ws H Q E (RT K) (((rdLoop g m last l5).bind fun rows l4 => .ok (.tuple (.str z :: (ds0 ++ [])) :: rows) l4).map fun t => rs ++ t) := q
        rw [List.append_nil, loop_cons] at q
        have hlus := dpAll_len hus
        have l3 := kinds_len hkz
        refine ⟨D, us, rfl, .inl ⟨sl hD5, fun t2 nt2 => ?_⟩⟩
        have s6 := same_upd (o := .tup us) nt2
        have ht2 : (upd H5 t2 (.tup us)) t2 = some (.tup us) := upd_same
        have ht5 : SqT K H5 t1 [V.str z] := v5.sqt hp4 (stt ht1)
        refine ⟨t1, t2, [V.str z], us, rfl, rfl, s6.sqt ht5, stt ht2, List.cons_ne_nil _ _, by show 1 + us.length ≤ sizeLine; exact Nat.le_of_lt (small1000 (by omega)), fun h => ?_, fun _ t7 nt7 => ?_⟩
        · exfalso
          rw [h] at hlus
          have : ks = [] := List.eq_nil_of_length_eq_zero (by rw [← ln]; exact hlus.symm)
          exact kinds_ne hkz this
        have s7 := same_upd (o := .tup ([V.str z] ++ us)) nt7
        have ht7 : (upd (upd H5 t2 (.tup us)) t7 (.tup ([V.str z] ++ us))) t7 = some (.tup ([V.str z] ++ us)) := upd_same
        have s57 := s6.trans s7
        generalize upd (upd H5 t2 (.tup us)) t7 (.tup ([V.str z] ++ us)) = H7 at ht7 s57 ⊢
        have v47 := v5.trans s57
        have hL4 := s4 _ _ hL3
        have hL7 : H7 L = some (.lst vs) := v47.v _ _ hL4 (fun e => by rw [e, hp4] at hL4; cases hL4)
        have R7 := R5.same s57
        have dr : Dp K H7 (.ref t7) (.tuple (.str z :: ds0)) := .tup (stt ht7) (.cons (.str z) (s57.dpAll hus))
        have tr7 : tupD (.tuple (.str z :: ds0)) = true := by show (true && tupAll ds0) = true; rw [tds]; rfl
        have v07 := v04.tr v47
        have v27 := (v3'.tr (VR.of s4)).tr v47
        refine ⟨L, _, _, rfl, rfl, hL7, sz6 (by omega), l5, rs ++ [.tuple (.str z :: ds0)], vs ++ [.ref t7], _, _, ?_, rfl, v07.own nL, upd_same, ?_, tupAll_app trs (by show (tupD _ && true) = true; rw [tr7]; rfl), R.own v07 R7 nL, q⟩
        · rw [List.length_append]
          show m + (rs.length + 1) = _
          omega
        · refine dpAll_app ?_ (.cons ?_ .nil)
          · exact dpAll_keep (fun _ _ h => sqt_setl hL7 (v27.sqt hp2 h)) trs hvs
          · exact dp_keep (fun _ _ h => sqt_setl hL7 h) tr7 dr
theorem ok_takerows (T : Tp K w mg) (C : Nat) : ∀ n, FnOk P w K mg base (L2.CX P w) (2 * n + (C + 5)) T.f_takerows T.fd_takerows ["self", "last"] (spTrows K T.C_Reader T.C_NoText (rdRows C n))
  | 0 => by
    refine ⟨fun _ _ _ _ h => ?_, fun _ _ _ _ _ _ _ _ _ _ _ _ _ h => ?_⟩
    · obtain ⟨p, ws, l, last, _, _, _, q⟩ := h
      exact q.elim
    · obtain ⟨p, ws, l, last, _, _, _, q⟩ := h
      exact q.elim
  | n + 1 => by
    have h := ok_takepart (C := C) (L := 2 * n + (C + 5)) T (by omega) (fun s l ds l2 h => rdRows_tup h) (ok_takerows T C n)
    have h2 := ok_takerows1 T (M := 2 * n + (C + 5) + 1) (by omega) h
    rwa [show 2 * n + (C + 5) + 1 + 1 = 2 * (n + 1) + (C + 5) by omega] at h2
end
end TP
namespace TP
open PySem PySem.Spec PyProof.Rows L2 HX HB HG HU HH HD HS HV HQ HK HN HJ TL HM
theorem putS_keys (kvs : List (Str × Int)) (z : Str) (v : Int) : (putS kvs z v).map (·.1) = if z ∈ kvs.map (·.1) then kvs.map (·.1) else kvs.map (·.1) ++ [z] := by
  unfold putS
  split
  · rw [List.map_map]
    refine List.map_congr_left fun q _ => ?_
    show (if q.1 = z then (z, v) else q).1 = q.1
    split
    · rename_i h; exact h.symm
    · rfl
  · rw [List.map_append]; rfl
theorem putS_len (kvs : List (Str × Int)) (z : Str) (v : Int) : (putS kvs z v).length ≤ kvs.length + 1 := by
  unfold putS
  split
  · rw [List.length_map]; omega
  · rw [List.length_append]; exact Nat.le_refl _
theorem put_dI (kvs : List (Str × Int)) (z : Str) (v : Int) : putK (dI kvs) (Sum.inr z : Key) (.int v) = dI (putS kvs z v) := by
  by_cases h : z ∈ kvs.map (·.1)
  · unfold putK putS
    rw [if_pos h, if_pos ?_]
    · unfold dI
      rw [List.map_map, List.map_map]
      refine List.map_congr_left fun q _ => ?_
      by_cases e : q.1 = z
      · simp [e]
      · have : ¬ (Sum.inr q.1 : Key) = Sum.inr z := fun h => e (Sum.inr.inj h)
        simp [e, this]
    · obtain ⟨q, hq, e⟩ := List.mem_map.mp h
      rw [List.any_eq_true]
      exact ⟨(Sum.inr q.1, .int q.2), List.mem_map.mpr ⟨q, hq, rfl⟩, decide_eq_true (by show (Sum.inr q.1 : Key) = _; rw [e])⟩
  · have := put_newI (acc := kvs) (p := (z, v)) h
    unfold putS
    rw [if_neg h]
    exact this
/-- names that are names, told once -/
structure HsOk (h : Hs) : Prop where
  c : (h.cs.map (·.1)).Nodup ∧ ∀ q ∈ h.cs, isNameL q.1 = true
  l : ∀ z ∈ h.ls, isNameL z = true
  h : (h.hs.map (·.1)).Nodup ∧ ∀ q ∈ h.hs, isNameL q.1 = true
theorem putS_ok {kvs : List (Str × Int)} {z : Str} {v : Int} (hz : isNameL z = true) (h : (kvs.map (·.1)).Nodup ∧ ∀ q ∈ kvs, isNameL q.1 = true) : ((putS kvs z v).map (·.1)).Nodup ∧ ∀ q ∈ putS kvs z v, isNameL q.1 = true := by
  refine ⟨?_, fun q hq => ?_⟩
  · rw [putS_keys]
    split
    · exact h.1
    · rename_i hn
      rw [List.nodup_append]
      exact ⟨h.1, by simp, fun a ha b hb e => hn (by rw [List.mem_singleton.mp hb] at e; rw [← e]; exact ha)⟩
  · unfold putS at hq
    split at hq
    · obtain ⟨r, hr, rfl⟩ := List.mem_map.mp hq
      split
      · exact hz
      · exact h.2 r hr
    · rcases List.mem_append.mp hq with hq | hq
      · exact h.2 q hq
      · rw [List.mem_singleton.mp hq]; exact hz
def Hs.n (h : Hs) : Nat := h.cs.length + h.ls.length + h.hs.length
theorem HsOk.okC {kvs : List (Str × Int)} (h : (kvs.map (·.1)).Nodup ∧ ∀ q ∈ kvs, isNameL q.1 = true) (l : kvs.length ≤ 100) : OkD kvs := ⟨h.1, l, fun q hq => ⟨(Low.of (h.2 q hq)).ok, rfl⟩⟩
theorem val_some {z : Str} {cs : List (Str × Int)} (h : z ∈ cs.map (·.1)) : ∃ v, valV (dI cs) (Sum.inr z : Key) = some v := by
  unfold valV
  cases e : (dI cs).find? (fun kv => decide (kv.1 = (Sum.inr z : Key))) with
  | some kv => exact ⟨_, rfl⟩
  | none =>
    rw [List.find?_eq_none] at e
    obtain ⟨q, hq, rfl⟩ := List.mem_map.mp h
    exact absurd (decide_eq_true rfl) (e (Sum.inr q.1, .int q.2) (List.mem_map.mpr ⟨q, hq, rfl⟩))
section
variable {P : Program} {w : World} {K : PySem.W.Frag} {mg : Str → Option Value} {base : Heap}
theorem madeG {NP : Nat} {cs : List (Str × Int)} {ls : List Str} {hs : List (Str × Int)} {rows : List PyData} {H : Hp} {v vc vl vw : V} {C CE x dx : Addr} {Q : VK} {E : XK} (good : Good (.tuple rows) NP) (okc : OkD cs) (lf : ls.length ≤ 100) (okl : ∀ z ∈ ls, isNameL z = true) (okh : OkD hs) (hsz : (placesD NP rows []).length ≤ sizeLine) (tup : tupAll rows = true)
    (hd : Dp K H v (.tuple rows)) (hC : ArgD H vc cs) (hL : ArgL H vl ls) (hCh : ArgD H vw hs) (nx : H x = none) (ndx : H dx = none)
    (q : match progD NP cs ls hs (.tuple rows) with
      | some pl => ∀ H' (dd t : Addr), Same H H' → SqT K H' t (pl.map V.int) → H' dd = some (.xd [("place", .ref t)]) → E (.ref CE) (some dd) H'
      | none => ∀ H', Same H H' → Pf K H H' x C cs ls hs rows (placesD NP rows []) → Q .non H') : spProg K NP C CE [.ref x, v, vc, vl, vw] (upd (upd H dx (.own x)) x (.ins C dx [])) Q E := by
  have sc : Same H (upd (upd H dx (.own x)) x (.ins C dx [])) := ((Same.refl H).own ndx).own nx
  refine ⟨x, dx, v, .tuple rows, vc, vl, vw, cs, ls, hs, rfl, upd_same, sc.dp hd, good, hC.same sc, okc, hL.same sc, lf, fun z hz => (Low.of (okl z hz)).ok, hCh.same sc, okh, hsz, fun H' v1 => ?_⟩
  cases e : progD NP cs ls hs (.tuple rows) with
  | some pl =>
    rw [e] at q
    exact fun t dd ht hdd _ => q H' dd t (Same.V1 nx ndx v1) ht hdd
  | none =>
    rw [e] at q
    intro O
    exact q H' (Same.V1 nx ndx v1) (Pf.made nx ndx O hd v1 tup)
/-- what read_program wishes of a text of these words -/
def RdP (K : PySem.W.Frag) (C CN CT : Addr) (NP : Nat) (ws : List Str) (H : Hp) (Q : VK) (E : XK) : Rr (Hs × List PyData) → Prop
  | .ok (h, rows) _ => h.cs.length ≤ 100 ∧ h.ls.length ≤ 100 ∧ h.hs.length ≤ 100 ∧ Good (.tuple rows) NP ∧ (placesD NP rows []).length ≤ sizeLine ∧
    if h.tw = true then ∀ H' (dd t : Addr), Same H H' → SqT K H' t [] → H' dd = some (.xd [("place", .ref t)]) → E (.ref CN) (some dd) H'
    else match progD NP h.cs h.ls h.hs (.tuple rows) with
      | some pl => ∀ H' (dd t : Addr), Same H H' → SqT K H' t (pl.map V.int) → H' dd = some (.xd [("place", .ref t)]) → E (.ref CN) (some dd) H'
      | none => ∀ p H', Same H H' → Pf K H H' p C h.cs h.ls h.hs rows (placesD NP rows []) → Q (.ref p) H'
  | .bad l => ∀ (dd : Addr) H', Same H H' → H' dd = some (.xd [("at", .int ((ws.length - l.length : Nat) : Int))]) → E (.ref CT) (some dd) H'
  | .out => False
theorem RdP.bind {α : Type} {C CN CT CR p : Addr} {NP : Nat} {ws : List Str} {H Hc : Hp} {Q Q' : VK} {E : XK} {R : α → V → Hp → Prop} {r : Rr α} {f : α → List Str → Rr (Hs × List PyData)} (h : RdP K C CN CT NP ws H Q E (r.bind f)) (toH : ∀ {H' : Hp}, VR p Hc H' → Same H H')
    (k : ∀ a l, r = .ok a l → ∀ v H', VR p Hc H' → R a v H' → Rl H' p CR ws l → RdP K C CN CT NP ws H Q E (f a l) → Q' v H') : Out CR CT p ws Hc Q' E R r := by
  cases r with
  | ok a l => exact fun v H' v' hr R' => k a l rfl v H' v' hr R' h
  | bad l => exact fun dd H' v' e => h dd H' (toH v') e
  | out => exact h
def spRead (K : PySem.W.Frag) (C CN CT : Addr) (CC N NP : Nat) : Sp := fun vs H Q E => ∃ (text : Str), vs = [.str text] ∧ text.length ≤ 10 ^ 6 ∧ WsOk (wordsOf text) ∧ RdP K C CN CT NP (wordsOf text) H Q E (rdAll CC N (wordsOf text))
theorem ok_readprog (T : Tp K w mg) {C N NP L : Nat} (hNP : NP ≤ 64) (hL1 : 2 * N + (C + 5) ≤ L) (hL2 : NP + (NP + 4) + 4 ≤ L) : FnOk P w K mg base (L2.CX P w) (L + 1) T.f_readprog T.fd_readprog ["text"] (spRead K T.C_Program T.C_NoProgram T.C_NoText C N NP) := by
  refine T.D_readprog.F.okX sc_readprog (fun vs H Q E h => ?_) (fun cdv A outer s H vs Q E hr h => ?_)
  · obtain ⟨text, rfl, _⟩ := h
    rfl
  · obtain ⟨text, rfl, hlen, hw, q⟩ := h
    have hu := hu_of hr
    refine ⟨_, (pss_cons (ps_set (i := 1) sc_readprog.nd rfl (.inl rfl) (pe_make T.mk_Reader (ok_rinit T) (hr.mono (by omega)) (by rfl) T.gC_Reader T.b_rinit .nil pass0 (pa_cons (pv 0) pa_nil)))
  (pss_cons (ps_asg (pe_tup (pa_cons pe_dnewK (pa_cons (pe_lst pa_nil) (pa_cons pe_dnewK (pa_cons pe_bl pa_nil))))) (pg_tup rfl (pgs_cons (pg_name (i := 2) sc_readprog.nd rfl (.inl rfl)) (pgs_cons (pg_name (i := 3) sc_readprog.nd rfl (.inl rfl)) (pgs_cons (pg_name (i := 4) sc_readprog.nd rfl (.inl rfl)) (pgs_cons (pg_name (i := 5) sc_readprog.nd rfl (.inl rfl)) pgs_nil))))))
  (pss_cons (ps_while (passes_of rfl) (pt_cmpR op_in_seq (pe_meth0 (pv 1) T.cl_Reader T.m_peek (ok_peek T) (hr.mono (by omega)) T.b_peek .nil pass0) (pe_tup (pa_cons pe_str (pa_cons pe_str (pa_cons pe_str pa_nil)))) (by rfl))
  (pss_cons (ps_set (i := 6) sc_readprog.nd rfl (.inl rfl) (pe_meth (pv 1) T.cl_Reader T.m_takeif (ok_takeif T) (hr.mono (by omega)) T.b_takeif .nil (HAH.passX rfl rfl rfl rfl) (pa_cons pe_bl pa_nil)))
  (pss_cons (ps_set (i := 7) sc_readprog.nd rfl (.inl rfl) (pe_meth0 (pv 1) T.cl_Reader T.m_takename (ok_takename T) (hr.mono (by omega)) T.b_takename .nil (HAH.passX rfl rfl rfl rfl)))
  (pss_one (ps_if (pt_cmpR op_eq (pv 6) pe_str (nomark _))
  (pss_one (ps_expr (pe_bm PySem.F.plainAttrs_list PySem.F.slot_list_append PySem.F.type_list_append mt_append (pv 3) (pa_cons (pv 7) pa_nil))))
  (pss_cons (ps_set (i := 8) sc_readprog.nd rfl (.inl rfl) (pe_ifExp (pt_cmpR op_eq (pv 6) pe_str (nomark _)) (pv 2) (pv 4)))
  (pss_cons (ps_set (i := 5) sc_readprog.nd rfl (.inl rfl) (pe_or (pv 5) (pe_one (pe_cmp (pc_din hu (pv 7) (pv 8))))))
  (pss_one (ps_dput hu (pv 8) (pv 7) (pe_meth0 (pv 1) T.cl_Reader T.m_takenum (ok_takenum T) (hr.mono (by omega)) T.b_takenum .nil (HAH.passX rfl rfl rfl rfl)) rfl)))))))))
  (pss_cons (ps_set (i := 9) sc_readprog.nd rfl (.inl rfl) (pe_meth (pv 1) T.cl_Reader T.m_takerows (ok_takerows T C N) (hr.mono (by omega)) T.b_takerows .nil (HAH.passX rfl rfl rfl rfl) (pa_cons pe_str pa_nil)))
  (pss_cons (ps_if (pt_val (pv 5))
  (pss_one (ps_raise rfl (takes_of rfl rfl rfl rfl) (pmk_oex T.x_NoProgram T.i_NoProgram T.ti_NoProgram (ok_np T) (hr.mono (by omega)) T.b_np .nil pass0 (by rfl) T.gC_NoProgram (pa_cons (pe_tup pa_nil) pa_nil))))
  pss_nil)
  (pss_one (ps_ret (pe_makeK T.mk_Program (ok_prog T NP hNP) (hr.mono (by omega)) (by rfl) T.gC_Program (kb_prog T) (HAH.passX rfl rfl rfl rfl) (pa_cons (pv 9) pa_nil) (pk_cons (pv 2) (pk_cons (pv 3) (pk_cons (pv 4) pk_nil))))))))))), ?_⟩
    show tSeq _ _ _ _ H
    refine ⟨_, rfl, fun p dx np ndx npd => ?_⟩
    refine ⟨p, dx, text, rfl, upd_same, hlen, fun H1 v1 R1 => ⟨rfl, ?_⟩⟩
    have s1 : Same H H1 := Same.V1 np ndx v1
    generalize wordsOf text = ws at hw q R1
    have R1 : Rl H1 p T.C_Reader ws ws := ⟨0, R1, Nat.zero_le _, rfl⟩
    have toH : ∀ {H' : Hp}, VR p H1 H' → Same H H' := fun {H'} v b o h => v.v b o (s1 b o h) (fun e => by rw [e, np] at h; cases h)
    refine fun C1 nC => ?_
    have sC := same_upd (o := .dK []) nC
    have hC : (upd H1 C1 (.dK [])) C1 = some (.dK (dI [])) := upd_same
    generalize upd H1 C1 (.dK []) = H2 at sC hC ⊢
    refine ⟨Nat.zero_le _, fun L1 nL => ?_⟩
    have sL := same_upd (o := .lst []) nL
    have hL : (upd H2 L1 (.lst [])) L1 = some (.lst (([] : List Str).map V.str)) := upd_same
    generalize upd H2 L1 (.lst []) = H3 at sL hL ⊢
    refine fun Ch nCh => ?_
    have sCh := same_upd (o := .dK []) nCh
    have hCh : (upd H3 Ch (.dK [])) Ch = some (.dK (dI [])) := upd_same
    generalize upd H3 Ch (.dK []) = H4 at sCh hCh ⊢
    refine ⟨by show 4 ≤ sizeLine; decide, fun t nt => ?_⟩
    have st := same_upd (o := .tup [.ref C1, .ref L1, .ref Ch, .bl false]) nt
    have ht : (upd H4 t (.tup [.ref C1, .ref L1, .ref Ch, .bl false])) t = some (.tup [.ref C1, .ref L1, .ref Ch, .bl false]) := upd_same
    generalize upd H4 t (.tup [.ref C1, .ref L1, .ref Ch, .bl false]) = H5 at st ht ⊢
    refine ⟨t, _, rfl, stt ht, rfl, _, _, rfl, _, _, rfl, _, _, rfl, _, _, rfl, rfl, ?_⟩
    have fC : H1 C1 = none := nC
    have fL : H1 L1 = none := sC.free nL
    have fCh : H1 Ch = none := (sC.trans sL).free nCh
    have nCL : C1 ≠ L1 := fun e => by rw [← e, hC] at nL; cases nL
    have nCCh : C1 ≠ Ch := fun e => by rw [← e, sL _ _ hC] at nCh; cases nCh
    have nLCh : L1 ≠ Ch := fun e => by rw [← e, hL] at nCh; cases nCh
    have sA : Same H1 H5 := ((sC.trans sL).trans sCh).trans st
    have hC5 := st _ _ (sCh _ _ (sL _ _ hC))
    have hL5 := st _ _ (sCh _ _ hL)
    have hCh5 := st _ _ hCh
    clear nC sC hC nL sL hL nCh sCh hCh nt st ht
    have hwl := hw.1
    rw [six] at hwl
    refine ⟨fun m σ H6 => ∃ (h : Hs) (l : List Str) (y6 y7 y8 : Option V), m + h.n ≤ ws.length + 1 ∧ HsOk h ∧ σ = [some (.str text), some (.ref p), some (.ref C1), some (.ref L1), some (.ref Ch), some (.bl h.tw), y6, y7, y8, none] ∧ VR p H1 H6 ∧ H6 C1 = some (.dK (dI h.cs)) ∧ H6 L1 = some (.lst (h.ls.map V.str)) ∧ H6 Ch = some (.dK (dI h.hs)) ∧ Rl H6 p T.C_Reader ws l ∧
      RdP K T.C_Program T.C_NoProgram T.C_NoText NP ws H Q E ((rdHeads m h l).bind fun h l => (rdRows C N "" l).bind fun rows l2 => .ok (h, rows) l2), ⟨ws.length + 1, ⟨[], [], [], false⟩, ws, none, none, none, Nat.le_refl _, ⟨⟨List.nodup_nil, fun _ h => nomatch h⟩, (fun _ h => nomatch h), ⟨List.nodup_nil, fun _ h => nomatch h⟩⟩, rfl, VR.of sA, hC5, hL5, hCh5, R1.same sA, q⟩, ?_⟩
    clear hC5 hL5 hCh5 sA q
    rintro m σ H6 ⟨h, l, y6, y7, y8, hm, hok, rfl, v6, hC, hL, hCh, R6, q⟩
    cases m with
    | zero => exact q.elim
    | succ m =>
    obtain ⟨dx6, l6', i6, hp6⟩ := R6.ins
    obtain ⟨j6, Rj6, hj6, ej6⟩ := R6.ex
    refine ⟨_, rfl, p, dx6, _, rfl, hp6, rfl, p, ws, j6, rfl, Rj6, hw.1, by show 3 ≤ sizeLine; decide, fun t2 nt2 => ?_⟩
    have s7 := same_upd (o := .tup [.str "cell", .str "lock", .str "channel"]) nt2
    have ht2 : (upd H6 t2 (.tup [.str "cell", .str "lock", .str "channel"])) t2 = some (.tup [.str "cell", .str "lock", .str "channel"]) := upd_same
    generalize upd H6 t2 (.tup [.str "cell", .str "lock", .str "channel"]) = H7 at s7 ht2 ⊢
    refine ⟨_, _, rfl, .inr (stt ht2), rfl, rfl, ?_⟩
    rw [if_neg Bool.false_ne_true, nx_drop, ej6, heads_in]
    refine ⟨_, rfl, ?_⟩
    have hC := s7 _ _ hC
    have hL := s7 _ _ hL
    have hCh := s7 _ _ hCh
    have v7 := v6.trans s7
    have R7 := R6.same s7
    have hp7 := s7 _ _ hp6
    clear hp6 R6 v6 ht2 nt2 Rj6 hj6 ej6
    unfold rdHeads at q
    by_cases hhd : nx l = "cell" ∨ nx l = "lock" ∨ nx l = "channel"
    · rw [decide_eq_true hhd]
      rw [if_pos (show isHead (nx l) = true from decide_eq_true hhd), Rr.assoc] at q
      refine ⟨fun σ' H' => ∃ (h : Hs) (l : List Str) (y6 y7 y8 : Option V), m + h.n ≤ ws.length + 1 ∧ HsOk h ∧ σ' = [some (.str text), some (.ref p), some (.ref C1), some (.ref L1), some (.ref Ch), some (.bl h.tw), y6, y7, y8, none] ∧ VR p H1 H' ∧ H' C1 = some (.dK (dI h.cs)) ∧ H' L1 = some (.lst (h.ls.map V.str)) ∧ H' Ch = some (.dK (dI h.hs)) ∧ Rl H' p T.C_Reader ws l ∧
        RdP K T.C_Program T.C_NoProgram T.C_NoText NP ws H Q E ((rdHeads m h l).bind fun h l => (rdRows C N "" l).bind fun rows l2 => .ok (h, rows) l2), ?_, ?_⟩
      · rintro σ' H' g1
        exact ⟨m, by omega, g1⟩
      have lne : l ≠ [] := fun e => by rw [e] at hhd; exact absurd hhd (by decide +kernel)
      -- the kind
      refine ⟨_, rfl, p, dx6, _, rfl, hp7, rfl, p, ws, l, true, rfl, R7, hw, fun _ => lne, ?_⟩
      unfold tkIf
      rw [if_pos rfl]
      rintro v8 H8 v8' rfl R8
      obtain ⟨dx8, l8', i8, hp8⟩ := R8.ins
      have v18 := v7.tr v8'
      unfold rdHead at q
      rw [Rr.assoc] at q
      -- the name
      refine ⟨_, rfl, p, dx8, _, rfl, hp8, rfl, p, ws, l.tail, rfl, R8, hw, q.bind (fun v' => toH (v18.tr v')) fun z l9 ez v9 H9 v9' ev9 R9 q => ?_⟩
      subst ev9
      obtain ⟨hnm, rfl, rfl⟩ := tkIf_ok ez
      obtain ⟨dx9, l9', i9, hp9⟩ := R9.ins
      have v89 := v8'.tr v9'
      have v19 := v7.tr v89
      have keep : ∀ {a : Addr} {o : HO}, H7 a = some o → (∀ C dx fs, o ≠ .ins C dx fs) → H9 a = some o := fun h z => v89.v _ _ h (fun e => by subst e; rw [hp7] at h; exact z _ _ _ (Option.some.inj h).symm)
      have hC := keep hC (by intro _ _ _ z; cases z)
      have hL := keep hL (by intro _ _ _ z; cases z)
      have hCh := keep hCh (by intro _ _ _ z; cases z)
      clear keep
      generalize nx l.tail = z at hnm q ez
      generalize l.tail.tail = l9 at R9 q ez
      have hn : h.cs.length + h.ls.length + h.hs.length = h.n := rfl
      refine ⟨_, rfl, rfl, _, rfl, ?_⟩
      rw [es_str]
      by_cases hlk : nx l = "lock"
      · rw [decide_eq_true hlk]
        rw [if_pos hlk] at q
        refine iteT ⟨_, rfl, .inl ⟨rfl, _, sl hL⟩, _, rfl, L1, _, _, rfl, rfl, hL, ?_, ?_⟩
        · rw [List.length_map]
          exact sz6 (by omega)
        refine ⟨h.lock z, l9, _, _, _, ?_, ⟨hok.c, ?_, hok.h⟩, rfl, v19.own fL, ?_, ?_, ?_, R1.own v19 R9 fL, q⟩
        · show m + (h.cs.length + (h.ls ++ [z]).length + h.hs.length) ≤ _
          rw [List.length_append]
          show m + (h.cs.length + (h.ls.length + 1) + h.hs.length) ≤ _
          omega
        · intro y hy
          rcases List.mem_append.mp hy with hy | hy
          · exact hok.l y hy
          · rw [List.mem_singleton.mp hy]; exact hnm
        · rw [upd_ne nCL]; exact hC
        · rw [upd_same]; show _ = some (HO.lst ((h.ls ++ [z]).map V.str)); rw [List.map_append]; rfl
        · rw [upd_ne nLCh.symm]; exact hCh
      · rw [decide_eq_false hlk]
        rw [if_neg hlk, Rr.assoc] at q
        refine iteF ⟨_, rfl, rfl, _, rfl, ?_⟩
        rw [es_str]
        by_cases hce : nx l = "cell"
        · rw [decide_eq_true hce]
          simp only [if_pos hce] at q
          refine iteT ⟨_, rfl, ?_⟩
          by_cases hz : z ∈ h.cs.map (·.1)
          · obtain ⟨vv, ev⟩ := val_some hz
            have dg : DGet H9 C1 (.str z) (some vv) := ev ▸ DGet.k (k := Sum.inr z) hC
            cases etw : h.tw with
            | true =>
              refine ⟨_, rfl, true, rfl, iteT ?_⟩
              refine ⟨_, rfl, p, dx9, _, rfl, hp9, rfl, p, ws, l9, rfl, R9, hw, q.bind (fun v' => toH (v19.tr v')) fun y l10 ey v10 H10 v10' ev10 R10 q => ?_⟩
              subst ev10
              have v1A := v19.tr v10'
              have keep2 : ∀ {a : Addr} {o : HO}, H9 a = some o → (∀ C dx fs, o ≠ .ins C dx fs) → H10 a = some o := fun h z => v10'.v _ _ h (fun e => by subst e; rw [hp9] at h; exact z _ _ _ (Option.some.inj h).symm)
              have hC := keep2 hC (by intro _ _ _ z; cases z)
              have hL := keep2 hL (by intro _ _ _ z; cases z)
              have hCh := keep2 hCh (by intro _ _ _ z; cases z)
              have htw : (h.cell z (figI y)).tw = true := by show (h.tw || _) = true; rw [etw]; rfl
              refine ⟨_, rfl, _, rfl, C1, _, rfl, DPut.k (k := Sum.inr z) hC ?_, h.cell z (figI y), l10, _, _, _, ?_, ⟨putS_ok hnm hok.c, hok.l, hok.h⟩, (by rw [htw]; try rfl), v1A.own fC, ?_, ?_, ?_, R1.own v1A R10 fC, q⟩
              · unfold dI; rw [List.length_map]; exact sz6 (by omega)
              · have := putS_len h.cs z (figI y)
                show m + ((putS h.cs z (figI y)).length + h.ls.length + h.hs.length) ≤ _
                omega
              · rw [upd_same, put_dI]; rfl
              · rw [upd_ne nCL.symm]; exact hL
              · rw [upd_ne nCCh.symm]; exact hCh
            | false =>
              refine ⟨_, rfl, false, rfl, iteF ⟨_, rfl, _, rfl, C1, _, rfl, dg, ?_⟩⟩
              refine ⟨_, rfl, p, dx9, _, rfl, hp9, rfl, p, ws, l9, rfl, R9, hw, q.bind (fun v' => toH (v19.tr v')) fun y l10 ey v10 H10 v10' ev10 R10 q => ?_⟩
              subst ev10
              have v1A := v19.tr v10'
              have keep2 : ∀ {a : Addr} {o : HO}, H9 a = some o → (∀ C dx fs, o ≠ .ins C dx fs) → H10 a = some o := fun h z => v10'.v _ _ h (fun e => by subst e; rw [hp9] at h; exact z _ _ _ (Option.some.inj h).symm)
              have hC := keep2 hC (by intro _ _ _ z; cases z)
              have hL := keep2 hL (by intro _ _ _ z; cases z)
              have hCh := keep2 hCh (by intro _ _ _ z; cases z)
              have htw : (h.cell z (figI y)).tw = true := by show (h.tw || decide (z ∈ h.cs.map (·.1))) = true; rw [etw, decide_eq_true hz]; rfl
              refine ⟨_, rfl, _, rfl, C1, _, rfl, DPut.k (k := Sum.inr z) hC ?_, h.cell z (figI y), l10, _, _, _, ?_, ⟨putS_ok hnm hok.c, hok.l, hok.h⟩, (by rw [htw]; try rfl), v1A.own fC, ?_, ?_, ?_, R1.own v1A R10 fC, q⟩
              · unfold dI; rw [List.length_map]; exact sz6 (by omega)
              · have := putS_len h.cs z (figI y)
                show m + ((putS h.cs z (figI y)).length + h.ls.length + h.hs.length) ≤ _
                omega
              · rw [upd_same, put_dI]; rfl
              · rw [upd_ne nCL.symm]; exact hL
              · rw [upd_ne nCCh.symm]; exact hCh
          · have dg : DGet H9 C1 (.str z) none := val_none hz ▸ DGet.k (k := Sum.inr z) hC
            cases etw : h.tw with
            | true =>
              refine ⟨_, rfl, true, rfl, iteT ?_⟩
              refine ⟨_, rfl, p, dx9, _, rfl, hp9, rfl, p, ws, l9, rfl, R9, hw, q.bind (fun v' => toH (v19.tr v')) fun y l10 ey v10 H10 v10' ev10 R10 q => ?_⟩
              subst ev10
              have v1A := v19.tr v10'
              have keep2 : ∀ {a : Addr} {o : HO}, H9 a = some o → (∀ C dx fs, o ≠ .ins C dx fs) → H10 a = some o := fun h z => v10'.v _ _ h (fun e => by subst e; rw [hp9] at h; exact z _ _ _ (Option.some.inj h).symm)
              have hC := keep2 hC (by intro _ _ _ z; cases z)
              have hL := keep2 hL (by intro _ _ _ z; cases z)
              have hCh := keep2 hCh (by intro _ _ _ z; cases z)
              have htw : (h.cell z (figI y)).tw = true := by show (h.tw || _) = true; rw [etw]; rfl
              refine ⟨_, rfl, _, rfl, C1, _, rfl, DPut.k (k := Sum.inr z) hC ?_, h.cell z (figI y), l10, _, _, _, ?_, ⟨putS_ok hnm hok.c, hok.l, hok.h⟩, (by rw [htw]; try rfl), v1A.own fC, ?_, ?_, ?_, R1.own v1A R10 fC, q⟩
              · unfold dI; rw [List.length_map]; exact sz6 (by omega)
              · have := putS_len h.cs z (figI y)
                show m + ((putS h.cs z (figI y)).length + h.ls.length + h.hs.length) ≤ _
                omega
              · rw [upd_same, put_dI]; rfl
              · rw [upd_ne nCL.symm]; exact hL
              · rw [upd_ne nCCh.symm]; exact hCh
            | false =>
              refine ⟨_, rfl, false, rfl, iteF ⟨_, rfl, _, rfl, C1, _, rfl, dg, ?_⟩⟩
              refine ⟨_, rfl, p, dx9, _, rfl, hp9, rfl, p, ws, l9, rfl, R9, hw, q.bind (fun v' => toH (v19.tr v')) fun y l10 ey v10 H10 v10' ev10 R10 q => ?_⟩
              subst ev10
              have v1A := v19.tr v10'
              have keep2 : ∀ {a : Addr} {o : HO}, H9 a = some o → (∀ C dx fs, o ≠ .ins C dx fs) → H10 a = some o := fun h z => v10'.v _ _ h (fun e => by subst e; rw [hp9] at h; exact z _ _ _ (Option.some.inj h).symm)
              have hC := keep2 hC (by intro _ _ _ z; cases z)
              have hL := keep2 hL (by intro _ _ _ z; cases z)
              have hCh := keep2 hCh (by intro _ _ _ z; cases z)
              have htw : (h.cell z (figI y)).tw = false := by show (h.tw || decide (z ∈ h.cs.map (·.1))) = false; rw [etw, decide_eq_false hz]; rfl
              refine ⟨_, rfl, _, rfl, C1, _, rfl, DPut.k (k := Sum.inr z) hC ?_, h.cell z (figI y), l10, _, _, _, ?_, ⟨putS_ok hnm hok.c, hok.l, hok.h⟩, (by rw [htw]; try rfl), v1A.own fC, ?_, ?_, ?_, R1.own v1A R10 fC, q⟩
              · unfold dI; rw [List.length_map]; exact sz6 (by omega)
              · have := putS_len h.cs z (figI y)
                show m + ((putS h.cs z (figI y)).length + h.ls.length + h.hs.length) ≤ _
                omega
              · rw [upd_same, put_dI]; rfl
              · rw [upd_ne nCL.symm]; exact hL
              · rw [upd_ne nCCh.symm]; exact hCh
        · rw [decide_eq_false hce]
          simp only [if_neg hce] at q
          refine iteF ⟨_, rfl, ?_⟩
          by_cases hz : z ∈ h.hs.map (·.1)
          · obtain ⟨vv, ev⟩ := val_some hz
            have dg : DGet H9 Ch (.str z) (some vv) := ev ▸ DGet.k (k := Sum.inr z) hCh
            cases etw : h.tw with
            | true =>
              refine ⟨_, rfl, true, rfl, iteT ?_⟩
              refine ⟨_, rfl, p, dx9, _, rfl, hp9, rfl, p, ws, l9, rfl, R9, hw, q.bind (fun v' => toH (v19.tr v')) fun y l10 ey v10 H10 v10' ev10 R10 q => ?_⟩
              subst ev10
              have v1A := v19.tr v10'
              have keep2 : ∀ {a : Addr} {o : HO}, H9 a = some o → (∀ C dx fs, o ≠ .ins C dx fs) → H10 a = some o := fun h z => v10'.v _ _ h (fun e => by subst e; rw [hp9] at h; exact z _ _ _ (Option.some.inj h).symm)
              have hC := keep2 hC (by intro _ _ _ z; cases z)
              have hL := keep2 hL (by intro _ _ _ z; cases z)
              have hCh := keep2 hCh (by intro _ _ _ z; cases z)
              have htw : (h.chan z (figI y)).tw = true := by show (h.tw || _) = true; rw [etw]; rfl
              refine ⟨_, rfl, _, rfl, Ch, _, rfl, DPut.k (k := Sum.inr z) hCh ?_, h.chan z (figI y), l10, _, _, _, ?_, ⟨hok.c, hok.l, putS_ok hnm hok.h⟩, (by rw [htw]; try rfl), v1A.own fCh, ?_, ?_, ?_, R1.own v1A R10 fCh, q⟩
              · unfold dI; rw [List.length_map]; exact sz6 (by omega)
              · have := putS_len h.hs z (figI y)
                show m + (h.cs.length + h.ls.length + (putS h.hs z (figI y)).length) ≤ _
                omega
              · rw [upd_ne nCCh]; exact hC
              · rw [upd_ne nLCh]; exact hL
              · rw [upd_same, put_dI]; rfl
            | false =>
              refine ⟨_, rfl, false, rfl, iteF ⟨_, rfl, _, rfl, Ch, _, rfl, dg, ?_⟩⟩
              refine ⟨_, rfl, p, dx9, _, rfl, hp9, rfl, p, ws, l9, rfl, R9, hw, q.bind (fun v' => toH (v19.tr v')) fun y l10 ey v10 H10 v10' ev10 R10 q => ?_⟩
              subst ev10
              have v1A := v19.tr v10'
              have keep2 : ∀ {a : Addr} {o : HO}, H9 a = some o → (∀ C dx fs, o ≠ .ins C dx fs) → H10 a = some o := fun h z => v10'.v _ _ h (fun e => by subst e; rw [hp9] at h; exact z _ _ _ (Option.some.inj h).symm)
              have hC := keep2 hC (by intro _ _ _ z; cases z)
              have hL := keep2 hL (by intro _ _ _ z; cases z)
              have hCh := keep2 hCh (by intro _ _ _ z; cases z)
              have htw : (h.chan z (figI y)).tw = true := by show (h.tw || decide (z ∈ h.hs.map (·.1))) = true; rw [etw, decide_eq_true hz]; rfl
              refine ⟨_, rfl, _, rfl, Ch, _, rfl, DPut.k (k := Sum.inr z) hCh ?_, h.chan z (figI y), l10, _, _, _, ?_, ⟨hok.c, hok.l, putS_ok hnm hok.h⟩, (by rw [htw]; try rfl), v1A.own fCh, ?_, ?_, ?_, R1.own v1A R10 fCh, q⟩
              · unfold dI; rw [List.length_map]; exact sz6 (by omega)
              · have := putS_len h.hs z (figI y)
                show m + (h.cs.length + h.ls.length + (putS h.hs z (figI y)).length) ≤ _
                omega
              · rw [upd_ne nCCh]; exact hC
              · rw [upd_ne nLCh]; exact hL
              · rw [upd_same, put_dI]; rfl
          · have dg : DGet H9 Ch (.str z) none := val_none hz ▸ DGet.k (k := Sum.inr z) hCh
            cases etw : h.tw with
            | true =>
              refine ⟨_, rfl, true, rfl, iteT ?_⟩
              refine ⟨_, rfl, p, dx9, _, rfl, hp9, rfl, p, ws, l9, rfl, R9, hw, q.bind (fun v' => toH (v19.tr v')) fun y l10 ey v10 H10 v10' ev10 R10 q => ?_⟩
              subst ev10
              have v1A := v19.tr v10'
              have keep2 : ∀ {a : Addr} {o : HO}, H9 a = some o → (∀ C dx fs, o ≠ .ins C dx fs) → H10 a = some o := fun h z => v10'.v _ _ h (fun e => by subst e; rw [hp9] at h; exact z _ _ _ (Option.some.inj h).symm)
              have hC := keep2 hC (by intro _ _ _ z; cases z)
              have hL := keep2 hL (by intro _ _ _ z; cases z)
              have hCh := keep2 hCh (by intro _ _ _ z; cases z)
              have htw : (h.chan z (figI y)).tw = true := by show (h.tw || _) = true; rw [etw]; rfl
              refine ⟨_, rfl, _, rfl, Ch, _, rfl, DPut.k (k := Sum.inr z) hCh ?_, h.chan z (figI y), l10, _, _, _, ?_, ⟨hok.c, hok.l, putS_ok hnm hok.h⟩, (by rw [htw]; try rfl), v1A.own fCh, ?_, ?_, ?_, R1.own v1A R10 fCh, q⟩
              · unfold dI; rw [List.length_map]; exact sz6 (by omega)
              · have := putS_len h.hs z (figI y)
                show m + (h.cs.length + h.ls.length + (putS h.hs z (figI y)).length) ≤ _
                omega
              · rw [upd_ne nCCh]; exact hC
              · rw [upd_ne nLCh]; exact hL
              · rw [upd_same, put_dI]; rfl
            | false =>
              refine ⟨_, rfl, false, rfl, iteF ⟨_, rfl, _, rfl, Ch, _, rfl, dg, ?_⟩⟩
              refine ⟨_, rfl, p, dx9, _, rfl, hp9, rfl, p, ws, l9, rfl, R9, hw, q.bind (fun v' => toH (v19.tr v')) fun y l10 ey v10 H10 v10' ev10 R10 q => ?_⟩
              subst ev10
              have v1A := v19.tr v10'
              have keep2 : ∀ {a : Addr} {o : HO}, H9 a = some o → (∀ C dx fs, o ≠ .ins C dx fs) → H10 a = some o := fun h z => v10'.v _ _ h (fun e => by subst e; rw [hp9] at h; exact z _ _ _ (Option.some.inj h).symm)
              have hC := keep2 hC (by intro _ _ _ z; cases z)
              have hL := keep2 hL (by intro _ _ _ z; cases z)
              have hCh := keep2 hCh (by intro _ _ _ z; cases z)
              have htw : (h.chan z (figI y)).tw = false := by show (h.tw || decide (z ∈ h.hs.map (·.1))) = false; rw [etw, decide_eq_false hz]; rfl
              refine ⟨_, rfl, _, rfl, Ch, _, rfl, DPut.k (k := Sum.inr z) hCh ?_, h.chan z (figI y), l10, _, _, _, ?_, ⟨hok.c, hok.l, putS_ok hnm hok.h⟩, (by rw [htw]; try rfl), v1A.own fCh, ?_, ?_, ?_, R1.own v1A R10 fCh, q⟩
              · unfold dI; rw [List.length_map]; exact sz6 (by omega)
              · have := putS_len h.hs z (figI y)
                show m + (h.cs.length + h.ls.length + (putS h.hs z (figI y)).length) ≤ _
                omega
              · rw [upd_ne nCCh]; exact hC
              · rw [upd_ne nLCh]; exact hL
              · rw [upd_same, put_dI]; rfl
    · rw [decide_eq_false hhd]
      rw [if_neg (show ¬ isHead (nx l) = true from fun h => hhd (of_decide_eq_true h))] at q
      have q : RdP K T.C_Program T.C_NoProgram T.C_NoText NP ws H Q E ((rdRows C N "" l).bind fun rows l2 => .ok (h, rows) l2) := q
      refine ⟨_, rfl, p, dx6, _, rfl, hp7, rfl, p, ws, l, "", rfl, R7, hw, q.bind (fun v' => toH (v7.tr v')) fun rows l8 er v8 H8 v8' d8 R8 q => ?_⟩
      obtain ⟨b1, b2, b3, good, hsz, q⟩ := q
      have keep : ∀ {a : Addr} {o : HO}, H7 a = some o → (∀ C dx fs, o ≠ .ins C dx fs) → H8 a = some o := fun h z => v8'.v _ _ h (fun e => by subst e; rw [hp7] at h; exact z _ _ _ (Option.some.inj h).symm)
      have hC := keep hC (by intro _ _ _ z; cases z)
      have hL := keep hL (by intro _ _ _ z; cases z)
      have hCh := keep hCh (by intro _ _ _ z; cases z)
      have s8 : Same H H8 := toH (v7.tr v8')
      refine nx_ ⟨_, rfl, h.tw, rfl, ?_⟩
      cases etw : h.tw with
      | true =>
        rw [etw, if_pos rfl] at q
        refine iteT ⟨Nat.zero_le _, fun t nt => mkO_of fun dd nd => ?_⟩
        have st := same_upd (o := .tup []) nt
        exact q _ dd t ((s8.trans st).trans (same_upd nd)) ((same_upd nd).sqt (stt upd_same)) upd_same
      | false =>
        rw [etw, if_neg Bool.false_ne_true] at q
        refine iteF (nx_ ?_)
        refine ⟨_, rfl, _, rfl, _, rfl, _, rfl, rfl, rfl, fun x dx2 nx ndx2 nxd => ?_⟩
        refine madeG good (HsOk.okC hok.c b1) b2 hok.l (HsOk.okC hok.h b3) hsz (rdRows_tup er) d8 (.inr ⟨C1, rfl, hC⟩) (.inr ⟨L1, rfl, hL⟩) (.inr ⟨Ch, rfl, hCh⟩) nx ndx2 ?_
        cases ep : progD NP h.cs h.ls h.hs (.tuple rows) with
        | some pl =>
          rw [ep] at q
          exact fun H9 dd t s9 => q H9 dd t (s8.trans s9)
        | none =>
          rw [ep] at q
          exact fun H9 s9 G => ⟨rfl, q x H9 (s8.trans s9) (G.base fun b n => s8.free n)⟩
end
end TP
namespace TP
open PySem PySem.Spec PyProof.Rows L2 HX HB HG HU HH HD HS HV HQ HK HN HJ TL HM
/-! ### what is read is data that the rules take -/
def WsP (l : List Str) : Prop := ∀ z ∈ l, z.length ≤ 600 ∧ okS z = true
theorem WsP.suf {l l2 : List Str} (h : WsP l) (s : l2 <:+ l) : WsP l2 := fun z hz => h z (s.subset hz)
theorem WsP.nxt {l : List Str} (h : WsP l) : (nx l).length ≤ 600 ∧ okS (nx l) = true := by
  cases l with
  | nil => exact ⟨by decide, by decide +kernel⟩
  | cons z l => exact h z (List.mem_cons_self ..)
theorem WsP.str {l : List Str} (h : WsP l) (n : Nat) : Good (.str (nx l)) n := by
  obtain ⟨h1, h2⟩ := h.nxt
  exact ⟨by show decide (_ ≤ 100000) = true; exact decide_eq_true (by omega), h2, Nat.zero_le _⟩
theorem good_int (i : Int) (n : Nat) : Good (.int i) n := ⟨rfl, rfl, Nat.zero_le _⟩
theorem good_tup {ds : List PyData} {n : Nat} (hl : ds.length ≤ 10000) (h : ∀ d ∈ ds, Good d n) : Good (.tuple ds) (n + 1) := by
  have key : ∀ {ds : List PyData}, (∀ d ∈ ds, Good d n) → okAll ds = true ∧ PyData.canLayAll0 ds = true ∧ PyData.depthAll ds ≤ n := by
    intro ds
    induction ds with
    | nil => intro _; exact ⟨rfl, rfl, Nat.zero_le _⟩
    | cons d ds ih =>
      intro h
      obtain ⟨a, b, c⟩ := ih fun x hx => h x (List.mem_cons_of_mem _ hx)
      have g := h d (List.mem_cons_self ..)
      refine ⟨?_, ?_, ?_⟩
      · show (okD d && okAll ds) = true; rw [g.ok, a]; rfl
      · show (PyData.canLay0 d && PyData.canLayAll0 ds) = true; rw [g.lay, b]; rfl
      · show max d.depth (PyData.depthAll ds) ≤ n; have := g.dep; omega
  obtain ⟨a, b, c⟩ := key h
  refine ⟨?_, b, ?_⟩
  · show (decide (ds.length ≤ 10000) && okAll ds) = true
    rw [decide_eq_true hl, a]; rfl
  · show PyData.depthAll ds + 1 ≤ n + 1; omega
theorem tail_lt {l : List Str} (h : l ≠ []) : l.tail.length < l.length := by
  cases l with
  | nil => exact absurd rfl h
  | cons z l => exact Nat.lt_succ_self _
theorem nx_ne {l : List Str} {z : Str} (h : nx l = z) (hz : z ≠ "") : l ≠ [] := fun e => by rw [e] at h; exact hz h.symm
theorem name_ne {l : List Str} (h : isNameL (nx l) = true) : l ≠ [] := fun e => by
  rw [e] at h
  exact absurd h (by decide +kernel)
theorem kind3_ne {l : List Str} (h : isKind3 (nx l) = true) : l ≠ [] := fun e => by
  rw [e] at h
  exact absurd h (by decide +kernel)
theorem tkIf_suf {g : Bool} {l l2 : List Str} {z : Str} (h : tkIf g l = .ok z l2) (hg : g = true → l ≠ []) : l2 <:+ l ∧ l2.length < l.length := by
  obtain ⟨h1, _, rfl⟩ := tkIf_ok h
  exact ⟨List.tail_suffix _, tail_lt (hg h1)⟩
theorem tkW_suf {w : Str} {l l2 : List Str} {z : Str} (h : tkW w l = .ok z l2) (hw : w ≠ "") : l2 <:+ l ∧ l2.length < l.length :=
  tkIf_suf h fun e => nx_ne (of_decide_eq_true e) hw
theorem calc_good : ∀ (n : Nat) {l l2 : List Str} {d : PyData}, rdCalc n l = .ok d l2 → WsP l → Good d n ∧ l2 <:+ l ∧ l2.length < l.length
  | 0, l, l2, d, h, _ => by cases h
  | n + 1, l, l2, d, h, hw => by
    unfold rdCalc at h
    split at h
    · rename_i hf
      cases h
      exact ⟨good_int _ _, List.tail_suffix _, tail_lt (fig_ne hf)⟩
    · split at h
      · obtain ⟨z, hz, rfl⟩ := Rr.map_ok h
        have h2 := tkIf_suf hz name_ne
        obtain ⟨_, rfl, _⟩ := tkIf_ok hz
        exact ⟨hw.str _, h2⟩
      · rename_i hp
        have lne : l ≠ [] := nx_ne (Decidable.not_not.mp hp) (by decide +kernel)
        obtain ⟨k, l3, hk, h⟩ := Rr.bind_ok h
        obtain ⟨a, l4, ha, h⟩ := Rr.bind_ok h
        obtain ⟨b, l5, hb, h⟩ := Rr.bind_ok h
        obtain ⟨_, l6, he, h⟩ := Rr.bind_ok h
        cases h
        have s3 := tkIf_suf hk kind3_ne
        have s1 : l.tail <:+ l := List.tail_suffix _
        have w1 := hw.suf s1
        have hk2 := (tkIf_ok hk).2.1
        have w3 := w1.suf s3.1
        obtain ⟨ga, sa, la⟩ := calc_good n ha w3
        obtain ⟨gb, sb, lb⟩ := calc_good n hb (w3.suf sa)
        have s6 := tkW_suf he (by decide +kernel)
        refine ⟨good_tup (by show 3 ≤ 10000; decide) fun d hd => ?_, (s6.1.trans (sb.trans (sa.trans (s3.1.trans s1)))), by have := tail_lt lne; omega⟩
        simp only [List.mem_cons, List.not_mem_nil, or_false] at hd
        rcases hd with rfl | rfl | rfl
        · rw [hk2]; exact w1.str n
        · exact ga
        · exact gb
/-- what a part's reading gives -/
def PtG (M : Nat) (g : Str → List Str → Rr PyData) : Prop := ∀ k l d l2, g k l = .ok d l2 → WsP l → l.length ≤ 10000 → Good d M ∧ l2 <:+ l ∧ l2.length < l.length ∧ (k = "body" → ∀ m, cntD m (rowsD d) + l2.length ≤ l.length)
def RwG (M : Nat) (f : List Str → Rr (List PyData)) : Prop := ∀ l ds l2, f l = .ok ds l2 → WsP l → l.length ≤ 10000 → Good (.tuple ds) M ∧ l2 <:+ l ∧ ∀ m, cntD m ds + l2.length ≤ l.length
theorem part_good {C M : Nat} {f : List Str → Rr (List PyData)} (hC : C ≤ M) (hf : RwG M f) : PtG M (rdPart C f) := fun k l d l2 h hw hl => by
  unfold rdPart at h
  split at h
  · rename_i hk
    obtain ⟨a, b, c⟩ := calc_good C h hw
    exact ⟨a.mono hC, b, c, fun e => by rw [hk] at e; exact absurd e (by decide +kernel)⟩
  · split at h
    · rename_i hk
      obtain ⟨z, hz, rfl⟩ := Rr.map_ok h
      have h2 := tkIf_suf hz fig_ne
      exact ⟨good_int _ _, h2.1, h2.2, fun e => by rw [e] at hk; exact absurd hk (by decide +kernel)⟩
    · split at h
      · rename_i hk
        obtain ⟨z, hz, rfl⟩ := Rr.map_ok h
        have h2 := tkIf_suf hz name_ne
        obtain ⟨_, rfl, _⟩ := tkIf_ok hz
        exact ⟨hw.str _, h2.1, h2.2, fun e => absurd e hk⟩
      · obtain ⟨_, l3, h3, h⟩ := Rr.bind_ok h
        obtain ⟨ds, l4, h4, h⟩ := Rr.bind_ok h
        obtain ⟨_, l5, h5, h⟩ := Rr.bind_ok h
        cases h
        have s3 := tkW_suf h3 (by decide +kernel)
        have s5 := tkW_suf h5 (by decide +kernel)
        obtain ⟨a, b, c⟩ := hf _ _ _ h4 (hw.suf s3.1) (by omega)
        have l4' := b.length_le
        refine ⟨a, s5.1.trans (b.trans s3.1), by omega, fun _ m => ?_⟩
        have := c m
        show cntD m ds + _ ≤ _
        omega
theorem parts_good {M : Nat} {g : Str → List Str → Rr PyData} (hg : PtG M g) : ∀ {ks : List Str} {l l2 : List Str} {ds : List PyData}, rdParts g ks l = .ok ds l2 → WsP l → l.length ≤ 10000 →
    (∀ d ∈ ds, Good d M) ∧ ds.length = ks.length ∧ l2 <:+ l ∧ ∀ m, ((bodiesV ks ds).map fun b => cntD m (rowsD b)).sum + l2.length ≤ l.length
  | [], l, l2, ds, h, _, _ => by
    cases h
    exact ⟨(fun _ h => nomatch h), rfl, List.suffix_refl _, fun m => by show 0 + _ ≤ _; omega⟩
  | k :: ks, l, l2, ds, h, hw, hl => by
    unfold rdParts at h
    obtain ⟨d, l3, e1, h⟩ := Rr.bind_ok h
    obtain ⟨ds2, l4, e2, h⟩ := Rr.bind_ok h
    cases h
    obtain ⟨a1, a2, a3, a4⟩ := hg _ _ _ _ e1 hw hl
    obtain ⟨b1, b2, b3, b4⟩ := parts_good hg e2 (hw.suf a2) (by omega)
    refine ⟨fun x hx => ?_, by rw [List.length_cons, List.length_cons, b2], b3.trans a2, fun m => ?_⟩
    · rcases List.mem_cons.mp hx with rfl | hx
      · exact a1
      · exact b1 x hx
    · have h4 := b4 m
      simp only [bodiesV]
      split
      · rename_i hk
        have := a4 hk m
        rw [List.map_cons, List.sum_cons]
        omega
      · omega
theorem loop_good {M : Nat} {g : Str → List Str → Rr PyData} (hg : PtG M g) : ∀ {m : Nat} {last : Str} {l l2 : List Str} {ds : List PyData}, rdLoop g m last l = .ok ds l2 → WsP l → l.length ≤ 10000 →
    (∀ d ∈ ds, Good d (M + 1)) ∧ l2 <:+ l ∧ ds.length + l2.length ≤ l.length ∧ ∀ m, cntD m ds + l2.length ≤ l.length
  | 0, _, l, l2, ds, h, _, _ => by cases h
  | m + 1, last, l, l2, ds, h, hw, hl => by
    unfold rdLoop at h
    split at h
    · cases h
      exact ⟨(fun _ h => nomatch h), List.suffix_refl _, by show 0 + _ ≤ _; omega, fun m => by cases m <;> (show 0 + _ ≤ _; omega)⟩
    · split at h
      · cases h
      · rename_i ks hk
        obtain ⟨ds2, l3, e1, h⟩ := Rr.bind_ok h
        obtain ⟨rows, l4, e2, h⟩ := Rr.bind_ok h
        cases h
        have lne : l ≠ [] := nx_ne rfl (word_not hk).1
        have lt := tail_lt lne
        have s1 : l.tail <:+ l := List.tail_suffix _
        obtain ⟨a1, a2, a3, a4⟩ := parts_good hg e1 (hw.suf s1) (by omega)
        have l3' := a3.length_le
        obtain ⟨b1, b2, b3, b4⟩ := loop_good hg e2 ((hw.suf s1).suf a3) (by omega)
        refine ⟨fun x hx => ?_, b2.trans (a3.trans s1), by rw [List.length_cons]; omega, fun m => ?_⟩
        · rcases List.mem_cons.mp hx with rfl | hx
          · refine good_tup (by have := kinds_len hk; rw [List.length_cons]; omega) fun d hd => ?_
            rcases List.mem_cons.mp hd with rfl | hd
            · exact hw.str _
            · exact a1 d hd
          · exact b1 x hx
        · cases m with
          | zero =>
            have := b4 0
            show 0 + _ ≤ _
            omega
          | succ m =>
            have h1 := a4 m
            have h2 := b4 (m + 1)
            have eb : bodiesD (.tuple (.str (nx l) :: ds2)) = bodiesV ks ds2 := by simp only [bodiesD, hk]
            show ((PyData.tuple (.str (nx l) :: ds2) :: rows).map fun row => 1 + ((bodiesD row).map fun b => cntD m (rowsD b)).sum).sum + _ ≤ _
            rw [List.map_cons, List.sum_cons, eb]
            have h2 : (rows.map fun row => 1 + ((bodiesD row).map fun b => cntD m (rowsD b)).sum).sum + l2.length ≤ l3.length := h2
            omega
theorem rows_good (C : Nat) : ∀ (n : Nat) (last : Str), RwG (2 * n + C) (rdRows C n last)
  | 0, _, l, ds, l2, h, _, _ => by cases h
  | n + 1, last, l, ds, l2, h, hw, hl => by
    unfold rdRows at h
    obtain ⟨a, b, c, d⟩ := loop_good (part_good (M := 2 * n + C) (by omega) (rows_good C n "}")) h hw hl
    have := good_tup (n := 2 * n + C + 1) (by omega) a
    rw [show 2 * (n + 1) + C = 2 * n + C + 1 + 1 by omega]
    exact ⟨this, b, d⟩
/-! ### the reader never runs out -/
theorem cnt_suf {w : Str} {l l2 : List Str} (s : l2 <:+ l) : l2.count w ≤ l.count w := s.sublist.count_le _
theorem cnt_tail {w : Str} {l : List Str} (h : nx l = w) (hne : l ≠ []) : l.tail.count w + 1 = l.count w := by
  cases l with
  | nil => exact absurd rfl hne
  | cons z l =>
    have h : z = w := h
    subst h
    rw [List.count_cons_self]; rfl
theorem Rr.bind_out {α β : Type} {r : Rr α} {f : α → List Str → Rr β} (h : r.bind f = .out) : r = .out ∨ ∃ a l, r = .ok a l ∧ f a l = .out := by
  cases r with
  | ok a l => exact .inr ⟨a, l, rfl, h⟩
  | bad l => cases h
  | out => exact .inl rfl
theorem Rr.map_out {α β : Type} {r : Rr α} {f : α → β} (h : r.map f = .out) : r = .out := by
  cases r with
  | ok a l => cases h
  | bad l => cases h
  | out => rfl
theorem tkIf_out {g : Bool} {l : List Str} (h : tkIf g l = .out) : False := by
  unfold tkIf at h
  split at h <;> cases h
theorem calc_suf (n : Nat) : ∀ {l l2 : List Str} {d : PyData}, rdCalc n l = .ok d l2 → l2 <:+ l := by
  induction n with
  | zero => intro l l2 d h; cases h
  | succ n ih =>
    intro l l2 d h
    unfold rdCalc at h
    split at h
    · cases h; exact List.tail_suffix _
    · split at h
      · obtain ⟨z, hz, rfl⟩ := Rr.map_ok h
        exact (tkIf_suf hz name_ne).1
      · obtain ⟨k, l3, hk, h⟩ := Rr.bind_ok h
        obtain ⟨a, l4, ha, h⟩ := Rr.bind_ok h
        obtain ⟨b, l5, hb, h⟩ := Rr.bind_ok h
        obtain ⟨_, l6, he, h⟩ := Rr.bind_ok h
        cases h
        exact (tkW_suf he (by decide +kernel)).1.trans ((ih hb).trans ((ih ha).trans ((tkIf_suf hk kind3_ne).1.trans (List.tail_suffix _))))
theorem calc_out : ∀ (n : Nat) {l : List Str}, rdCalc n l = .out → n ≤ l.count ("(" : Str)
  | 0, l, _ => Nat.zero_le _
  | n + 1, l, h => by
    unfold rdCalc at h
    split at h
    · cases h
    · split at h
      · exact (tkIf_out (Rr.map_out h)).elim
      · rename_i hp
        have hp := Decidable.not_not.mp hp
        have c1 := cnt_tail hp (nx_ne hp (by decide +kernel))
        rcases Rr.bind_out h with h | ⟨k, l3, hk, h⟩
        · exact (tkIf_out h).elim
        have c3 := cnt_suf (w := "(") (tkIf_suf hk kind3_ne).1
        rcases Rr.bind_out h with h | ⟨a, l4, ha, h⟩
        · have := calc_out n h; omega
        have c4 := cnt_suf (w := "(") (calc_suf n ha)
        rcases Rr.bind_out h with h | ⟨b, l5, hb, h⟩
        · have := calc_out n h; omega
        rcases Rr.bind_out h with h | ⟨_, l6, _, h⟩
        · exact (tkIf_out h).elim
        cases h
def PtO (C n : Nat) (g : Str → List Str → Rr PyData) : Prop := ∀ k l, g k l = .out → C ≤ l.count ("(" : Str) ∨ n ≤ l.count ("{" : Str)
def PtS (g : Str → List Str → Rr PyData) : Prop := ∀ k l d l2, g k l = .ok d l2 → l2 <:+ l
theorem parts_suf {g : Str → List Str → Rr PyData} (hs : PtS g) : ∀ {ks : List Str} {l l2 : List Str} {ds : List PyData}, rdParts g ks l = .ok ds l2 → l2 <:+ l
  | [], l, l2, ds, h => by cases h; exact List.suffix_refl _
  | k :: ks, l, l2, ds, h => by
    unfold rdParts at h
    obtain ⟨d, l3, e1, h⟩ := Rr.bind_ok h
    obtain ⟨ds2, l4, e2, h⟩ := Rr.bind_ok h
    cases h
    exact (parts_suf hs e2).trans (hs _ _ _ _ e1)
theorem parts_out {C n : Nat} {g : Str → List Str → Rr PyData} (hg : PtO C n g) (hs : PtS g) : ∀ {ks : List Str} {l : List Str}, rdParts g ks l = .out → C ≤ l.count ("(" : Str) ∨ n ≤ l.count ("{" : Str)
  | [], l, h => by cases h
  | k :: ks, l, h => by
    unfold rdParts at h
    rcases Rr.bind_out h with h | ⟨d, l3, e1, h⟩
    · exact hg _ _ h
    have s := hs _ _ _ _ e1
    rcases Rr.bind_out h with h | ⟨ds, l4, e2, h⟩
    · have c1 := cnt_suf (w := "(") s
      have c2 := cnt_suf (w := "{") s
      rcases parts_out hg hs h with h | h
      · exact .inl (by omega)
      · exact .inr (by omega)
    · cases h
theorem loop_suf {g : Str → List Str → Rr PyData} (hs : PtS g) : ∀ {m : Nat} {last : Str} {l l2 : List Str} {ds : List PyData}, rdLoop g m last l = .ok ds l2 → l2 <:+ l
  | 0, _, l, l2, ds, h => by cases h
  | m + 1, last, l, l2, ds, h => by
    unfold rdLoop at h
    split at h
    · cases h; exact List.suffix_refl _
    · split at h
      · cases h
      · obtain ⟨ds2, l3, e1, h⟩ := Rr.bind_ok h
        obtain ⟨rows, l4, e2, h⟩ := Rr.bind_ok h
        cases h
        exact (loop_suf hs e2).trans ((parts_suf hs e1).trans (List.tail_suffix _))
theorem loop_out {C n : Nat} {g : Str → List Str → Rr PyData} (hg : PtO C n g) (hs : PtS g) : ∀ {m : Nat} {last : Str} {l : List Str}, l.length < m → rdLoop g m last l = .out → C ≤ l.count ("(" : Str) ∨ n ≤ l.count ("{" : Str)
  | 0, _, l, hm, _ => by omega
  | m + 1, last, l, hm, h => by
    unfold rdLoop at h
    split at h
    · cases h
    · split at h
      · cases h
      · rename_i ks hk
        have lne : l ≠ [] := nx_ne rfl (word_not hk).1
        have lt := tail_lt lne
        have c1 := cnt_suf (w := "(") (List.tail_suffix l)
        have c2 := cnt_suf (w := "{") (List.tail_suffix l)
        rcases Rr.bind_out h with h | ⟨ds, l3, e1, h⟩
        · rcases parts_out hg hs h with h | h
          · exact .inl (by omega)
          · exact .inr (by omega)
        have s := parts_suf hs e1
        have l3' := s.length_le
        have c3 := cnt_suf (w := "(") s
        have c4 := cnt_suf (w := "{") s
        rcases Rr.bind_out h with h | ⟨rows, l4, e2, h⟩
        · rcases loop_out hg hs (by omega) h with h | h
          · exact .inl (by omega)
          · exact .inr (by omega)
        · cases h
theorem part_suf {C : Nat} {f : List Str → Rr (List PyData)} (hf : ∀ l ds l2, f l = .ok ds l2 → l2 <:+ l) : PtS (rdPart C f) := fun k l d l2 h => by
  unfold rdPart at h
  split at h
  · exact calc_suf C h
  · split at h
    · obtain ⟨z, hz, rfl⟩ := Rr.map_ok h
      exact (tkIf_suf hz fig_ne).1
    · split at h
      · obtain ⟨z, hz, rfl⟩ := Rr.map_ok h
        exact (tkIf_suf hz name_ne).1
      · obtain ⟨_, l3, h3, h⟩ := Rr.bind_ok h
        obtain ⟨ds, l4, h4, h⟩ := Rr.bind_ok h
        obtain ⟨_, l5, h5, h⟩ := Rr.bind_ok h
        cases h
        exact (tkW_suf h5 (by decide +kernel)).1.trans ((hf _ _ _ h4).trans (tkW_suf h3 (by decide +kernel)).1)
theorem part_out {C n : Nat} {f : List Str → Rr (List PyData)} (hf : ∀ l, f l = .out → C ≤ l.count ("(" : Str) ∨ n ≤ l.count ("{" : Str)) : PtO C (n + 1) (rdPart C f) := fun k l h => by
  unfold rdPart at h
  split at h
  · exact .inl (calc_out C h)
  · split at h
    · exact (tkIf_out (Rr.map_out h)).elim
    · split at h
      · exact (tkIf_out (Rr.map_out h)).elim
      · rcases Rr.bind_out h with h | ⟨_, l3, h3, h⟩
        · exact (tkIf_out h).elim
        have e3 := tkIf_ok h3
        have hp : nx l = "{" := of_decide_eq_true e3.1
        have c2 := cnt_tail hp (nx_ne hp (by decide +kernel))
        rw [← e3.2.2] at c2
        have c1 := cnt_suf (w := "(") (tkW_suf h3 (by decide +kernel)).1
        rcases Rr.bind_out h with h | ⟨ds, l4, h4, h⟩
        · rcases hf _ h with h | h
          · exact .inl (by omega)
          · exact .inr (by omega)
        rcases Rr.bind_out h with h | ⟨_, l5, h5, h⟩
        · exact (tkIf_out h).elim
        cases h
theorem rows_suf (C : Nat) : ∀ (n : Nat) (last : Str) (l : List Str) (ds : List PyData) (l2 : List Str), rdRows C n last l = .ok ds l2 → l2 <:+ l
  | 0, _, l, ds, l2, h => by cases h
  | n + 1, last, l, ds, l2, h => by
    unfold rdRows at h
    exact loop_suf (part_suf (rows_suf C n "}")) h
theorem rows_out (C : Nat) : ∀ (n : Nat) (last : Str) (l : List Str), rdRows C n last l = .out → C ≤ l.count ("(" : Str) ∨ n ≤ l.count ("{" : Str)
  | 0, _, l, _ => .inr (Nat.zero_le _)
  | n + 1, last, l, h => by
    unfold rdRows at h
    exact loop_out (part_out (rows_out C n "}")) (part_suf (rows_suf C n "}")) (Nat.lt_succ_self _) h
end TP
namespace TP
open PySem PySem.Spec PyProof.Rows L2 HX HB HG HU HH HD HS HV HQ HK HN HJ TL HM
/-! ### the reader as a row of things awaited -/
inductive Sy where
  | calc
  | kind
  | name
  | num
  | wd (w : Str)
  | rows (last : Str)
def syOf (k : Str) : List Sy := if k = "calc" then [.calc] else if (rangeOf k).isSome = true then [.num] else if k ≠ "body" then [.name] else [.wd "{", .rows "}", .wd "}"]
def stepS : Sy → List Sy → List Str → Option (List Sy × List Str)
  | .calc, st, l => if isFig (nx l) = true then some (st, l.tail) else if nx l ≠ "(" then (if isNameL (nx l) = true then some (st, l.tail) else none) else some (.kind :: .calc :: .calc :: .wd ")" :: st, l.tail)
  | .kind, st, l => if isKind3 (nx l) = true then some (st, l.tail) else none
  | .name, st, l => if isNameL (nx l) = true then some (st, l.tail) else none
  | .num, st, l => if isFig (nx l) = true then some (st, l.tail) else none
  | .wd w, st, l => if decide (nx l = w) = true then some (st, l.tail) else none
  | .rows last, st, l => if nx l = last then some (st, l) else match kindsOf (nx l) with
    | none => none
    | some ks => some (ks.flatMap syOf ++ .rows last :: st, l.tail)
def goS : Nat → List Sy → List Str → Option (Bool × List Str)
  | 0, _, _ => none
  | _ + 1, [], l => some (true, l)
  | f + 1, s :: st, l => match stepS s st l with
    | none => some (false, l)
    | some q => goS f q.1 q.2
def Rn (st : List Sy) (l : List Str) (x : Bool × List Str) : Prop := ∃ f, goS f st l = some x
theorem Rn.nil {l : List Str} : Rn [] l (true, l) := ⟨1, rfl⟩
theorem Rn.ok {s : Sy} {st : List Sy} {l : List Str} {q : List Sy × List Str} {x : Bool × List Str} (h : stepS s st l = some q) (r : Rn q.1 q.2 x) : Rn (s :: st) l x := by
  obtain ⟨f, r⟩ := r
  exact ⟨f + 1, by unfold goS; rw [h]; exact r⟩
theorem Rn.bad {s : Sy} {st : List Sy} {l : List Str} (h : stepS s st l = none) : Rn (s :: st) l (false, l) := ⟨1, by unfold goS; rw [h]⟩
theorem run_det : ∀ {f f' : Nat} {st : List Sy} {l : List Str} {x x' : Bool × List Str}, goS f st l = some x → goS f' st l = some x' → x = x'
  | 0, _, _, _, _, _, h, _ => by cases h
  | _ + 1, 0, _, _, _, _, _, h => by cases h
  | f + 1, f' + 1, [], l, x, x', h, h' => by
    unfold goS at h h'
    rw [← Option.some.inj h, ← Option.some.inj h']
  | f + 1, f' + 1, s :: st, l, x, x', h, h' => by
    unfold goS at h h'
    cases e : stepS s st l with
    | none =>
      rw [e] at h h'
      rw [← Option.some.inj h, ← Option.some.inj h']
    | some q =>
      rw [e] at h h'
      exact run_det h h'
theorem Rn.det {st : List Sy} {l : List Str} {x x' : Bool × List Str} (h : Rn st l x) (h' : Rn st l x') : x = x' := by
  obtain ⟨f, h⟩ := h
  obtain ⟨f', h'⟩ := h'
  exact run_det h h'
/-- a reading is a goS -/
def Mt {α : Type} (pre : List Sy) (l : List Str) : Rr α → Prop
  | .ok _ l2 => ∀ st x, Rn st l2 x → Rn (pre ++ st) l x
  | .bad l2 => ∀ st, Rn (pre ++ st) l (false, l2)
  | .out => True
theorem Mt.bind {α β : Type} {p1 p2 : List Sy} {l : List Str} {r : Rr α} {f : α → List Str → Rr β} (h : Mt p1 l r) (k : ∀ a l2, Mt p2 l2 (f a l2)) : Mt (p1 ++ p2) l (r.bind f) := by
  cases r with
  | bad l2 => intro st; rw [List.append_assoc]; exact h _
  | out => trivial
  | ok a l2 =>
    have k2 := k a l2
    show Mt _ _ (f a l2)
    cases e : f a l2 with
    | ok b l3 => rw [e] at k2; intro st x r; rw [List.append_assoc]; exact h _ _ (k2 _ _ r)
    | bad l3 => rw [e] at k2; intro st; rw [List.append_assoc]; exact h _ _ (k2 _)
    | out => trivial
theorem Mt.map {α β : Type} {p : List Sy} {l : List Str} {r : Rr α} {f : α → β} (h : Mt p l r) : Mt p l (r.map f) := by cases r <;> exact h
theorem Mt.ret {α : Type} {l : List Str} {a : α} : Mt [] l (.ok a l) := fun _ _ r => r
theorem Mt.atom {s : Sy} {g : Bool} {l : List Str} (h : ∀ st, stepS s st l = if g = true then some (st, l.tail) else none) : Mt [s] l (tkIf g l) := by
  unfold tkIf
  cases g with
  | true => intro st x r; exact Rn.ok (h st) r
  | false => intro st; exact Rn.bad (h st)
theorem Mt.word {w : Str} {l : List Str} : Mt [.wd w] l (tkW w l) := Mt.atom fun _ => rfl
theorem Mt.step {α : Type} {s : Sy} {p : List Sy} {l l2 : List Str} {r : Rr α} (h : ∀ st, stepS s st l = some (p ++ st, l2)) (m : Mt p l2 r) : Mt [s] l r := by
  cases r with
  | ok a l3 => exact fun st x r => Rn.ok (h st) (m st x r)
  | bad l3 => exact fun st => Rn.ok (h st) (m st)
  | out => trivial
theorem calc_mt : ∀ (n : Nat) (l : List Str), Mt [.calc] l (rdCalc n l)
  | 0, _ => trivial
  | n + 1, l => by
    unfold rdCalc
    split
    · rename_i h
      exact fun st x r => Rn.ok (q := (st, l.tail)) (by show (if _ then _ else _) = _; rw [if_pos h]; rfl) r
    · rename_i h
      split
      · rename_i h2
        refine Mt.map (Mt.atom fun st => ?_)
        show (if _ then _ else _) = _
        rw [if_neg h, if_pos h2]
      · rename_i h2
        refine Mt.step (p := [.kind, .calc, .calc, .wd ")"]) (l2 := l.tail) (fun st => ?_) ?_
        · show (if _ then _ else _) = _
          rw [if_neg h, if_neg h2]
          rfl
        · exact Mt.bind (p1 := [.kind]) (Mt.atom fun _ => rfl) fun k l2 => Mt.bind (p1 := [.calc]) (calc_mt n l2) fun a l3 => Mt.bind (p1 := [.calc]) (calc_mt n l3) fun b l4 => Mt.bind (p1 := [.wd ")"]) (p2 := []) Mt.word fun _ l5 => Mt.ret
theorem part_mt {C : Nat} {f : List Str → Rr (List PyData)} (hf : ∀ l, Mt [.rows "}"] l (f l)) (k : Str) (l : List Str) : Mt (syOf k) l (rdPart C f k l) := by
  unfold rdPart syOf
  split
  · exact calc_mt C l
  · split
    · exact Mt.map (Mt.atom fun _ => rfl)
    · split
      · exact Mt.map (Mt.atom fun _ => rfl)
      · exact Mt.bind (p1 := [.wd "{"]) Mt.word fun _ l2 => Mt.bind (p1 := [.rows "}"]) (hf l2) fun rows l3 => Mt.bind (p1 := [.wd "}"]) (p2 := []) Mt.word fun _ l4 => Mt.ret
theorem parts_mt {g : Str → List Str → Rr PyData} (hg : ∀ k l, Mt (syOf k) l (g k l)) : ∀ (ks : List Str) (l : List Str), Mt (ks.flatMap syOf) l (rdParts g ks l)
  | [], l => Mt.ret
  | k :: ks, l => by
    rw [List.flatMap_cons]
    unfold rdParts
    refine Mt.bind (hg k l) fun d l2 => ?_
    have := Mt.bind (p2 := []) (f := fun ds l3 => Rr.ok (d :: ds) l3) (parts_mt hg ks l2) fun _ _ => Mt.ret
    rwa [List.append_nil] at this
theorem loop_mt {g : Str → List Str → Rr PyData} (hg : ∀ k l, Mt (syOf k) l (g k l)) : ∀ (m : Nat) (last : Str) (l : List Str), Mt [.rows last] l (rdLoop g m last l)
  | 0, _, _ => trivial
  | m + 1, last, l => by
    unfold rdLoop
    split
    · rename_i h
      exact fun st x r => Rn.ok (q := (st, l)) (by show (if _ then _ else _) = _; rw [if_pos h]; rfl) r
    · rename_i h
      cases e : kindsOf (nx l) with
      | none => exact fun st => Rn.bad (by show (if _ then _ else _) = _; rw [if_neg h, e])
      | some ks =>
        refine Mt.step (p := ks.flatMap syOf ++ [.rows last]) (l2 := l.tail) (fun st => ?_) ?_
        · show (if _ then _ else _) = _
          rw [if_neg h, e, List.append_assoc]
          rfl
        · refine Mt.bind (parts_mt hg ks l.tail) fun ds l2 => ?_
          have := Mt.bind (p2 := []) (f := fun rows l3 => Rr.ok (PyData.tuple (.str (nx l) :: ds) :: rows) l3) (loop_mt hg m last l2) fun _ _ => Mt.ret
          rwa [List.append_nil] at this
theorem rows_mt (C : Nat) : ∀ (n : Nat) (last : Str) (l : List Str), Mt [.rows last] l (rdRows C n last l)
  | 0, _, _ => trivial
  | n + 1, last, l => by
    unfold rdRows
    exact loop_mt (fun k l => part_mt (rows_mt C n "}") k l) _ _ _
theorem rows_run {C n : Nat} {last : Str} {l l2 : List Str} {b : Bool} (ho : rdRows C n last l ≠ .out) (h : Rn [.rows last] l (b, l2)) : if b = true then ∃ rows, rdRows C n last l = .ok rows l2 else rdRows C n last l = .bad l2 := by
  have m := rows_mt C n last l
  cases e : rdRows C n last l with
  | ok rows l3 =>
    rw [e] at m
    have := (m [] (true, l3) Rn.nil).det h
    cases this
    exact ⟨rows, rfl⟩
  | bad l3 =>
    rw [e] at m
    have := (m []).det h
    cases this
    rfl
  | out => exact absurd e ho
/-! ### words and what stands there -/
def Acc (k z : Str) : Bool := if k = "n" then isNameL z else if k = "t" then isFig z else if k = "c" then isFig z || isNameL z else if k = "s" then isKind3 z else if k = "o" then decide (z = "(") else if k = "x" then decide (z = ")")
  else if k = "{" then decide (z = "{") else if k = "b" then decide (z = "}") else decide (k = "w")
def Bad (k z : Str) : Bool := if k = "n" then !isNameL z else if k = "t" then !isFig z else if k = "c" ∨ k = "o" then !isFig z && (!isNameL z && decide (z ≠ "(")) else if k = "s" then !isKind3 z else if k = "x" then decide (z ≠ ")")
  else if k = "{" then decide (z ≠ "{") else if k = "b" then (kindsOf z).isNone && decide (z ≠ "}") else (kindsOf z).isNone && (decide (z ≠ "") && decide (z ≠ "}"))
def absS : List Sy → Str × Str → Option (List Sy)
  | .calc :: st, q => if q.2 = "c" then some st else if q.2 = "o" then some (.kind :: .calc :: .calc :: .wd ")" :: st) else none
  | .kind :: st, q => if q.2 = "s" then some st else none
  | .name :: st, q => if q.2 = "n" then some st else none
  | .num :: st, q => if q.2 = "t" then some st else none
  | .wd w :: st, q => if (w = "{" ∧ q.2 = "{") ∨ (w = ")" ∧ q.2 = "x") then some st else none
  | .rows last :: .wd w :: st, q => if q.2 = "w" ∧ last = "}" then (kindsOf q.1).map fun ks => ks.flatMap syOf ++ .rows last :: .wd w :: st else if q.2 = "b" ∧ last = "}" ∧ w = "}" then some st else none
  | [.rows last], q => if q.2 = "w" ∧ last = "" then (kindsOf q.1).map fun ks => ks.flatMap syOf ++ [.rows last] else none
  | _, _ => none
theorem abs_step {st st2 : List Sy} {z k : Str} (h : absS st (z, k) = some st2) (ha : Acc k z = true) {rest : List Str} {x : Bool × List Str} (r : Rn st2 rest x) : Rn st (z :: rest) x := by
  have nxz : nx (z :: rest) = z := rfl
  have rowW : ∀ {last : Str} {t : List Sy}, (last = "" ∨ last = "}") → ((kindsOf z).map fun ks => ks.flatMap syOf ++ .rows last :: t) = some st2 → Rn (.rows last :: t) (z :: rest) x := fun {last t} hl h => by
    cases e : kindsOf z with
    | none => rw [e] at h; cases h
    | some ks =>
      rw [e] at h
      have h : ks.flatMap syOf ++ .rows last :: t = st2 := Option.some.inj h
      subst h
      refine Rn.ok (q := (_, rest)) ?_ r
      have wn := word_not e
      show (if z = last then _ else _) = _
      rw [if_neg (by rcases hl with h | h <;> (rw [h]; first | exact wn.1 | exact wn.2.1)), nxz, e]
      rfl
  unfold absS at h
  split at h
  · -- calc
    split at h
    · rename_i hk
      cases h
      have hk : k = "c" := hk
      subst hk
      have ha : (isFig z || isNameL z) = true := ha
      cases ef : isFig z with
      | true => exact Rn.ok (q := (_, rest)) (by show (if isFig z = true then _ else _) = _; rw [if_pos ef]; rfl) r
      | false =>
        rw [ef, Bool.false_or] at ha
        refine Rn.ok (q := (_, rest)) ?_ r
        show (if isFig z = true then _ else if z ≠ "(" then (if isNameL z = true then _ else _) else _) = _
        rw [if_neg (by rw [ef]; decide), if_pos (fun e => by rw [e] at ha; exact absurd ha (by decide +kernel)), if_pos ha]
        rfl
    · split at h
      · rename_i hk
        cases h
        have hk : k = "o" := hk
        subst hk
        have ha : z = "(" := of_decide_eq_true ha
        subst ha
        exact Rn.ok (q := (_, rest)) (by rfl) r
      · cases h
  · split at h
    · rename_i hk
      cases h
      have hk : k = "s" := hk
      subst hk
      have ha : isKind3 z = true := ha
      exact Rn.ok (q := (_, rest)) (by show (if isKind3 z = true then _ else _) = _; rw [if_pos ha]; rfl) r
    · cases h
  · split at h
    · rename_i hk
      cases h
      have hk : k = "n" := hk
      subst hk
      have ha : isNameL z = true := ha
      exact Rn.ok (q := (_, rest)) (by show (if isNameL z = true then _ else _) = _; rw [if_pos ha]; rfl) r
    · cases h
  · split at h
    · rename_i hk
      cases h
      have hk : k = "t" := hk
      subst hk
      have ha : isFig z = true := ha
      exact Rn.ok (q := (_, rest)) (by show (if isFig z = true then _ else _) = _; rw [if_pos ha]; rfl) r
    · cases h
  · split at h
    · rename_i hk
      cases h
      rcases hk with ⟨rfl, hk⟩ | ⟨rfl, hk⟩
      · have hk : k = "{" := hk
        subst hk
        have ha : z = "{" := of_decide_eq_true ha
        subst ha
        exact Rn.ok (q := (_, rest)) (by rfl) r
      · have hk : k = "x" := hk
        subst hk
        have ha : z = ")" := of_decide_eq_true ha
        subst ha
        exact Rn.ok (q := (_, rest)) (by rfl) r
    · cases h
  · split at h
    · rename_i hk
      exact rowW (.inr hk.2) h
    · split at h
      · rename_i hk
        cases h
        obtain ⟨hk, rfl, rfl⟩ := hk
        have hk : k = "b" := hk
        subst hk
        have ha : z = "}" := of_decide_eq_true ha
        subst ha
        exact Rn.ok (q := (_, _)) (by rfl) (Rn.ok (q := (_, rest)) (by rfl) r)
      · cases h
  · split at h
    · rename_i hk
      exact rowW (.inl hk.2) h
    · cases h
  · cases h
theorem abs_bad {st st2 : List Sy} {z k b : Str} (h : absS st (z, k) = some st2) (ha : Bad k b = true) {rest : List Str} : Rn st (b :: rest) (false, b :: rest) := by
  have rowB : ∀ {last : Str} {t : List Sy}, kindsOf b = none → b ≠ last → Rn (.rows last :: t) (b :: rest) (false, b :: rest) := fun {last t} e hl => by
    refine Rn.bad ?_
    show (if b = last then _ else match kindsOf b with | none => _ | some ks => _) = _
    rw [if_neg hl, e]
  have isN : ∀ {o : Option (List Str)}, o.isNone = true → o = none := fun h => Option.isNone_iff_eq_none.mp h
  unfold absS at h
  split at h
  · have key : (!isFig b && (!isNameL b && decide (b ≠ "("))) = true → Rn (.calc :: ‹List Sy›) (b :: rest) (false, b :: rest) := fun ha => by
      simp only [Bool.and_eq_true, Bool.not_eq_true', decide_eq_true_eq] at ha
      obtain ⟨a1, a2, a3⟩ := ha
      refine Rn.bad ?_
      show (if isFig b = true then _ else if b ≠ "(" then (if isNameL b = true then _ else _) else _) = _
      rw [if_neg (by rw [a1]; decide), if_pos a3, if_neg (by rw [a2]; decide)]
    split at h
    · rename_i hk
      have hk : k = "c" := hk
      subst hk
      exact key ha
    · split at h
      · rename_i hk
        have hk : k = "o" := hk
        subst hk
        exact key ha
      · cases h
  · split at h
    · rename_i hk
      have hk : k = "s" := hk
      subst hk
      have ha : (!isKind3 b) = true := ha
      exact Rn.bad (by show (if isKind3 b = true then _ else _) = _; rw [if_neg (by simpa using ha)])
    · cases h
  · split at h
    · rename_i hk
      have hk : k = "n" := hk
      subst hk
      have ha : (!isNameL b) = true := ha
      exact Rn.bad (by show (if isNameL b = true then _ else _) = _; rw [if_neg (by simpa using ha)])
    · cases h
  · split at h
    · rename_i hk
      have hk : k = "t" := hk
      subst hk
      have ha : (!isFig b) = true := ha
      exact Rn.bad (by show (if isFig b = true then _ else _) = _; rw [if_neg (by simpa using ha)])
    · cases h
  · split at h
    · rename_i hk
      rcases hk with ⟨rfl, hk⟩ | ⟨rfl, hk⟩
      · have hk : k = "{" := hk
        subst hk
        have ha : b ≠ "{" := of_decide_eq_true ha
        exact Rn.bad (by show (if decide (b = "{") = true then _ else _) = _; rw [if_neg (by simpa using ha)])
      · have hk : k = "x" := hk
        subst hk
        have ha : b ≠ ")" := of_decide_eq_true ha
        exact Rn.bad (by show (if decide (b = ")") = true then _ else _) = _; rw [if_neg (by simpa using ha)])
    · cases h
  · split at h
    · rename_i hk
      obtain ⟨hk, rfl⟩ := hk
      have hk : k = "w" := hk
      subst hk
      have ha : ((kindsOf b).isNone && (decide (b ≠ "") && decide (b ≠ "}"))) = true := ha
      simp only [Bool.and_eq_true, decide_eq_true_eq] at ha
      exact rowB (isN ha.1) ha.2.2
    · split at h
      · rename_i hk
        obtain ⟨hk, rfl, rfl⟩ := hk
        have hk : k = "b" := hk
        subst hk
        have ha : ((kindsOf b).isNone && decide (b ≠ "}")) = true := ha
        simp only [Bool.and_eq_true, decide_eq_true_eq] at ha
        exact rowB (isN ha.1) ha.2
      · cases h
  · split at h
    · rename_i hk
      obtain ⟨hk, rfl⟩ := hk
      have hk : k = "w" := hk
      subst hk
      have ha : ((kindsOf b).isNone && (decide (b ≠ "") && decide (b ≠ "}"))) = true := ha
      simp only [Bool.and_eq_true, decide_eq_true_eq] at ha
      exact rowB (isN ha.1) ha.2.1
    · cases h
  · cases h
def absA : List Sy → List (Str × Str) → Option (List Sy)
  | st, [] => some st
  | st, q :: qs => (absS st q).bind fun st2 => absA st2 qs
theorem absA_app : ∀ {st st2 : List Sy} {xs ys : List (Str × Str)}, absA st xs = some st2 → absA st (xs ++ ys) = absA st2 ys
  | st, st2, [], ys, h => by cases h; rfl
  | st, st2, q :: xs, ys, h => by
    unfold absA at h
    cases e : absS st q with
    | none => rw [e] at h; cases h
    | some st3 =>
      rw [e] at h
      show (absS st q).bind (fun st2 => absA st2 (xs ++ ys)) = _
      rw [e]
      exact absA_app (xs := xs) h
theorem absA_mid : ∀ {st : List Sy} {xs ys : List (Str × Str)} {st2 : List Sy}, absA st (xs ++ ys) = some st2 → ∃ st1, absA st xs = some st1 ∧ absA st1 ys = some st2
  | st, [], ys, st2, h => ⟨st, rfl, h⟩
  | st, q :: xs, ys, st2, h => by
    have h : (absS st q).bind (fun s => absA s (xs ++ ys)) = some st2 := h
    cases e : absS st q with
    | none => rw [e] at h; cases h
    | some st3 =>
      rw [e] at h
      obtain ⟨st1, h1, h2⟩ := absA_mid (xs := xs) h
      exact ⟨st1, by show (absS st q).bind _ = _; rw [e]; exact h1, h2⟩
theorem abs_run : ∀ {toks : List (Str × Str)} {st st2 : List Sy} {rest : List Str} {x : Bool × List Str}, absA st toks = some st2 → (∀ q ∈ toks, Acc q.2 q.1 = true) → Rn st2 rest x → Rn st (toks.map (·.1) ++ rest) x
  | [], st, st2, rest, x, h, _, r => by cases h; exact r
  | (z, k) :: toks, st, st2, rest, x, h, ha, r => by
    unfold absA at h
    cases e : absS st (z, k) with
    | none => rw [e] at h; cases h
    | some st3 =>
      rw [e] at h
      exact abs_step e (ha _ (List.mem_cons_self ..)) (abs_run h (fun q hq => ha q (List.mem_cons_of_mem _ hq)) r)
/-- a whole row of tokens is read to its end -/
theorem toks_good {toks : List (Str × Str)} (h : absA [.rows ""] toks = some [.rows ""]) (ha : ∀ q ∈ toks, Acc q.2 q.1 = true) : Rn [.rows ""] (toks.map (·.1)) (true, []) := by
  have := abs_run (rest := []) (x := (true, [])) h ha (Rn.ok (q := ([], [])) (by rfl) Rn.nil)
  rwa [List.append_nil] at this
/-- .. and to the one that can't stand there -/
theorem toks_bad {pre suf : List (Str × Str)} {z k b : Str} {rest : List Str} {st2 : List Sy} (h : absA [.rows ""] (pre ++ (z, k) :: suf) = some st2) (ha : ∀ q ∈ pre, Acc q.2 q.1 = true) (hb : Bad k b = true) : Rn [.rows ""] (pre.map (·.1) ++ b :: rest) (false, b :: rest) := by
  obtain ⟨st1, h1, h2⟩ := absA_mid h
  have h2 : (absS st1 (z, k)).bind (fun s => absA s suf) = some st2 := h2
  cases e : absS st1 (z, k) with
  | none => rw [e] at h2; cases h2
  | some st3 => exact abs_run h1 ha (abs_bad e hb)
/-- kinds of which any word is read alike -/
theorem absS_swap {st : List Sy} {z y k : Str} (hk : k = "n" ∨ k = "t" ∨ k = "c") : absS st (z, k) = absS st (y, k) := by
  have h1 : ¬ (k = "w") := by rcases hk with rfl | rfl | rfl <;> decide +kernel
  unfold absS
  split <;> simp_all
end TP
namespace TP
open PySem PySem.Spec PyProof.Rows L2 HX HB HG HU HH HD HS HV HQ HK HN HJ TL HM
/-! ### what a text of these words comes to: -1 where it has the form, else the word at which it is refused -/
def Tells (ws : List Str) (v : Int) : Prop := match rdAll 4 10 ws with
  | .ok (h, rows) _ => v = -1 ∧ h.cs.length ≤ 100 ∧ h.ls.length ≤ 100 ∧ h.hs.length ≤ 100 ∧ Good (.tuple rows) 24 ∧ (placesD 24 rows []).length ≤ sizeLine
  | .bad l => v = ((ws.length - l.length : Nat) : Int)
  | .out => False
def Few (ws : List Str) : Prop := WsP ws ∧ ws.length ≤ 1000 ∧ ws.count ("(" : Str) < 4 ∧ ws.count ("{" : Str) < 10
theorem head_cell : isHead "cell" = true := by decide +kernel
theorem head_lock : isHead "lock" = true := by decide +kernel
theorem tkIf_t {l : List Str} {g : Bool} (h : g = true) : tkIf g l = .ok (nx l) l.tail := by unfold tkIf; rw [if_pos h]
theorem tkIf_f {l : List Str} {g : Bool} (h : g = false) : tkIf g l = .bad l := by unfold tkIf; rw [if_neg (by rw [h]; decide)]
abbrev h00 : Hs := ⟨[], [], [], false⟩
theorem head_c {z y : Str} {l : List Str} {m : Nat} {h : Hs} (hz : isNameL z = true) (hy : isFig y = true) : rdHeads (m + 1) h ("cell" :: z :: y :: l) = rdHeads m (h.cell z (figI y)) l := by
  have e : rdHead h ("cell" :: z :: y :: l) = .ok (h.cell z (figI y)) l := by
    unfold rdHead
    show (tkIf (isNameL z) (z :: y :: l)).bind _ = _
    rw [tkIf_t hz]
    show (if (("cell" : Str) = "lock") then Rr.ok (h.lock z) (y :: l) else ((tkIf (isFig y) (y :: l)).bind fun y3 l3 => .ok (if ("cell" : Str) = "cell" then h.cell z (figI y3) else h.chan z (figI y3)) l3)) = _
    rw [if_neg (by decide +kernel), tkIf_t hy]
    show Rr.ok (if ("cell" : Str) = "cell" then h.cell z (figI y) else h.chan z (figI y)) l = _
    rw [if_pos rfl]
  show (if isHead "cell" = true then (rdHead h _).bind _ else _) = _
  rw [if_pos head_cell, e]
  rfl
theorem head_l {z : Str} {l : List Str} {m : Nat} {h : Hs} (hz : isNameL z = true) : rdHeads (m + 1) h ("lock" :: z :: l) = rdHeads m (h.lock z) l := by
  have e : rdHead h ("lock" :: z :: l) = .ok (h.lock z) l := by
    unfold rdHead
    show (tkIf (isNameL z) (z :: l)).bind _ = _
    rw [tkIf_t hz]
    show (if (("lock" : Str) = "lock") then Rr.ok (h.lock z) l else ((tkIf (isFig (nx l)) l).bind fun y3 l3 => .ok (if ("lock" : Str) = "cell" then h.cell z (figI y3) else h.chan z (figI y3)) l3)) = _
    rw [if_pos rfl]
  show (if isHead "lock" = true then (rdHead h _).bind _ else _) = _
  rw [if_pos head_lock, e]
  rfl
theorem head_end {l : List Str} {m : Nat} {h : Hs} (hl : isHead (nx l) = false) : rdHeads (m + 1) h l = .ok h l := by
  show (if isHead (nx l) = true then _ else _) = _
  rw [if_neg (by rw [hl]; decide)]
theorem head_cn {z : Str} {l : List Str} {m : Nat} {h : Hs} (hz : isNameL z = false) : rdHeads (m + 1) h ("cell" :: z :: l) = .bad (z :: l) := by
  have e : rdHead h ("cell" :: z :: l) = .bad (z :: l) := by
    unfold rdHead
    show (tkIf (isNameL z) (z :: l)).bind _ = _
    rw [tkIf_f hz]
    rfl
  show (if isHead "cell" = true then (rdHead h _).bind _ else _) = _
  rw [if_pos head_cell, e]
  rfl
theorem head_cf {z y : Str} {l : List Str} {m : Nat} {h : Hs} (hz : isNameL z = true) (hy : isFig y = false) : rdHeads (m + 1) h ("cell" :: z :: y :: l) = .bad (y :: l) := by
  have e : rdHead h ("cell" :: z :: y :: l) = .bad (y :: l) := by
    unfold rdHead
    show (tkIf (isNameL z) (z :: y :: l)).bind _ = _
    rw [tkIf_t hz]
    show (if (("cell" : Str) = "lock") then Rr.ok (h.lock z) (y :: l) else ((tkIf (isFig y) (y :: l)).bind fun y3 l3 => .ok (if ("cell" : Str) = "cell" then h.cell z (figI y3) else h.chan z (figI y3)) l3)) = _
    rw [if_neg (by decide +kernel), tkIf_f hy]
    rfl
  show (if isHead "cell" = true then (rdHead h _).bind _ else _) = _
  rw [if_pos head_cell, e]
  rfl
theorem head_ln {z : Str} {l : List Str} {m : Nat} {h : Hs} (hz : isNameL z = false) : rdHeads (m + 1) h ("lock" :: z :: l) = .bad (z :: l) := by
  have e : rdHead h ("lock" :: z :: l) = .bad (z :: l) := by
    unfold rdHead
    show (tkIf (isNameL z) (z :: l)).bind _ = _
    rw [tkIf_f hz]
    rfl
  show (if isHead "lock" = true then (rdHead h _).bind _ else _) = _
  rw [if_pos head_lock, e]
  rfl
/-- the head of these texts -/
def hd5 (z y z2 : Str) : List Str := ["cell", z, y, "lock", z2]
theorem rd_head {z y z2 : Str} {l : List Str} (hz : isNameL z = true) (hy : isFig y = true) (hz2 : isNameL z2 = true) (hl : isHead (nx l) = false) : rdHeads ((hd5 z y z2 ++ l).length + 1) h00 (hd5 z y z2 ++ l) = .ok ((h00.cell z (figI y)).lock z2) l := by
  have e : (hd5 z y z2 ++ l).length + 1 = (l.length + 3) + 1 + 1 + 1 := by rw [List.length_append]; show 5 + _ + 1 = _; omega
  rw [e]
  show rdHeads _ _ ("cell" :: z :: y :: "lock" :: z2 :: l) = _
  rw [head_c hz hy, head_l hz2, head_end hl]
theorem rows_ok {l : List Str} (f1 : l.count ("(" : Str) < 4) (f2 : l.count ("{" : Str) < 10) : rdRows 4 10 "" l ≠ .out := fun h => by
  rcases rows_out 4 10 "" l h with h | h <;> omega
theorem tells_rows {z y z2 : Str} {l : List Str} (hz : isNameL z = true) (hy : isFig y = true) (hz2 : isNameL z2 = true) (hl : isHead (nx l) = false) (f : Few (hd5 z y z2 ++ l)) :
    (Rn [.rows ""] l (true, []) → Tells (hd5 z y z2 ++ l) (-1)) ∧ ∀ l2, Rn [.rows ""] l (false, l2) → Tells (hd5 z y z2 ++ l) (((hd5 z y z2 ++ l).length - l2.length : Nat) : Int) := by
  obtain ⟨f0, f1, f2, f3⟩ := f
  have c1 : l.count ("(" : Str) ≤ (hd5 z y z2 ++ l).count ("(" : Str) := (List.sublist_append_right _ _).count_le _
  have c2 : l.count ("{" : Str) ≤ (hd5 z y z2 ++ l).count ("{" : Str) := (List.sublist_append_right _ _).count_le _
  have no := rows_ok (l := l) (by omega) (by omega)
  have wl : WsP l := fun w hw => f0 w (List.mem_append_right _ hw)
  have ll : l.length ≤ 1000 := by rw [List.length_append] at f1; omega
  unfold Tells
  have eA : rdAll 4 10 (hd5 z y z2 ++ l) = (rdRows 4 10 "" l).bind fun rows l2 => .ok ((h00.cell z (figI y)).lock z2, rows) l2 := by
    unfold rdAll
    rw [rd_head hz hy hz2 hl]
    rfl
  rw [eA]
  refine ⟨fun r => ?_, fun l2 r => ?_⟩
  · have := rows_run no r
    rw [if_pos rfl] at this
    obtain ⟨rows, e⟩ := this
    obtain ⟨g1, g2, g3⟩ := rows_good 4 10 "" l rows [] e wl (by omega)
    rw [e]
    have g3 := g3 24
    refine ⟨rfl, ?_, ?_, Nat.zero_le _, g1, ?_⟩
    · show (putS [] z (figI y)).length ≤ 100
      have := putS_len [] z (figI y)
      simp only [List.length_nil] at this
      omega
    · show 1 ≤ 100; decide
    · rw [places_len]
      exact Nat.le_of_lt (small1000 (by omega))
  · have := rows_run no r
    rw [if_neg Bool.false_ne_true] at this
    rw [this]
    rfl
theorem tells_h1 {b : Str} {l : List Str} (hb : isNameL b = false) : Tells ("cell" :: b :: l) 1 := by
  unfold Tells rdAll
  rw [head_cn hb]
  show (1 : Int) = ((l.length + 1 + 1 - (l.length + 1) : Nat) : Int)
  rw [show l.length + 1 + 1 - (l.length + 1) = 1 by omega]
  rfl
theorem tells_h2 {z b : Str} {l : List Str} (hz : isNameL z = true) (hb : isFig b = false) : Tells ("cell" :: z :: b :: l) 2 := by
  unfold Tells rdAll
  rw [head_cf hz hb]
  show (2 : Int) = ((l.length + 1 + 1 + 1 - (l.length + 1) : Nat) : Int)
  rw [show l.length + 1 + 1 + 1 - (l.length + 1) = 2 by omega]
  rfl
theorem tells_h4 {z y b : Str} {l : List Str} (hz : isNameL z = true) (hy : isFig y = true) (hb : isNameL b = false) : Tells ("cell" :: z :: y :: "lock" :: b :: l) 4 := by
  have e1 : rdHeads (("cell" :: z :: y :: "lock" :: b :: l : List Str).length + 1) h00 ("cell" :: z :: y :: "lock" :: b :: l) = .bad (b :: l) := (head_c (m := l.length + 5) hz hy).trans (head_ln (m := l.length + 4) hb)
  unfold Tells rdAll
  rw [e1]
  show (4 : Int) = ((l.length + 1 + 1 + 1 + 1 + 1 - (l.length + 1) : Nat) : Int)
  rw [show l.length + 1 + 1 + 1 + 1 + 1 - (l.length + 1) = 4 by omega]
  rfl
theorem tells_nil : Tells [] (-1) := by
  have e : rdAll 4 10 [] = .ok (h00, []) [] := by
    unfold rdAll
    rw [head_end (by decide +kernel)]
    rfl
  unfold Tells
  rw [e]
  exact ⟨rfl, Nat.zero_le _, Nat.zero_le _, Nat.zero_le _, ⟨rfl, rfl, by decide⟩, Nat.zero_le _⟩
theorem tells_one : Tells ["}"] 0 := by
  have e : rdAll 4 10 ["}"] = .bad ["}"] := by
    unfold rdAll
    rw [head_end (by decide +kernel)]
    show (rdRows 4 10 "" ["}"]).bind (fun rows l2 => Rr.ok (h00, rows) l2) = _
    have : rdRows 4 10 "" ["}"] = .bad ["}"] := by
      unfold rdRows rdLoop
      rw [if_neg (by decide +kernel), show kindsOf (nx ["}"]) = none by decide +kernel]
    rw [this]
    rfl
  unfold Tells
  rw [e]
  rfl
end TP
namespace TP
open PySem PySem.Spec PyProof.Rows L2 HX HB HG HU HH HD HS HV HQ HK HN HJ TL HM
section
variable {P : Program} {w : World} {K : PySem.W.Frag} {mg : Str → Option Value} {base : Heap}
theorem sum_le : ∀ ws : List Str, WsP ws → (ws.map (·.length)).sum ≤ 600 * ws.length
  | [], _ => Nat.zero_le _
  | z :: ws, h => by
    have h1 := sum_le ws fun y hy => h y (List.mem_cons_of_mem _ hy)
    have h2 := (h z (List.mem_cons_self ..)).1
    rw [List.map_cons, List.sum_cons, List.length_cons]
    omega
theorem join_le {s : Str} (hs : s.length = 1) : ∀ zs : List Str, (Str.join s zs).length ≤ (zs.map (·.length)).sum + zs.length
  | [] => Nat.zero_le _
  | [z] => by show z.length ≤ z.length + 0 + 1; omega
  | z :: y :: r => by
    have := join_le hs (y :: r)
    show (z ++ s ++ Str.join s (y :: r)).length ≤ z.length + ((y :: r).map (·.length)).sum + ((y :: r).length + 1)
    rw [strLen_append, strLen_append]
    omega
def spTold (K : PySem.W.Frag) : Sp := fun vs H Q _ => ∃ (L : Addr) (ws : List Str) (v : Int), vs = [.ref L] ∧ SqL K H L (ws.map V.str) ∧ (∀ z ∈ ws, Wd z) ∧ WsP ws ∧ ws.length ≤ 1000 ∧ Tells ws v ∧ ∀ H', Same H H' → Q (.int v) H'
theorem ok_ltold (T : Tp K w mg) : FnOk P w K mg base CX0 58 T.f_ltold T.fd_ltold ["_law_words"] (spTold K) := by
  refine T.D_ltold.F.ok sc_ltold (fun vs H Q E h => ?_) (fun cdv A outer s H vs Q E hr h => ?_)
  · obtain ⟨L, ws, v, rfl, _⟩ := h
    rfl
  · obtain ⟨L, ws, v, rfl, hL, hwd, hws, hwl, ht, q⟩ := h
    have hu := hu_of hr
    refine ⟨_, (pss_cons (ps_set (i := 1) sc_ltold.nd rfl (.inl rfl) (pe_un un_neg pe_int))
  (pss_cons (HAH.ps_try_mix rfl rfl takes0 (fun W pn xe tk _ => (pss_one (ps_expr (pe_callSD (ok_readprog (C := 4) (N := 10) (NP := 24) (L := 56) T (by decide) (by decide) (by decide)) (hr.mono (by omega)) (by rfl) T.D_readprog.g T.D_readprog.F.kp T.D_readprog.b .nil (fun σ => passAt tk σ) (pa_cons (HAH.pe_joinK (K := K) rfl pe_str (pv 0)) pa_nil)))))
  (.named (i := 2) sc_ltold.nd rfl rfl ⟨by rfl, by decide, .inl T.gC_NoText⟩ (fun a oe cls d pn hz hf => (pss_one (ps_set (i := 1) sc_ltold.nd rfl (.inl rfl) (pe_xf T.xf_NoText T.na_NoText_at hz hf (pv 2))))) (.bare ⟨by rfl, by decide, .inl T.gC_NoProgram⟩ (fun a oe cls d pn hz hf => (pss_one (ps_set (i := 1) sc_ltold.nd rfl (.inl rfl) (pe_un un_neg pe_int)))) .nil)))
  (pss_one (ps_ret (pv 1))))), ?_⟩
    have h1 := sum_le ws hws
    have hj : (Txt.join " " ws).length ≤ 10 ^ 6 := by
      rw [six, join_eq]
      have := join_le (s := " ") rfl ws
      omega
    refine ⟨1, rfl, ?_⟩
    refine ⟨⟨_, rfl⟩, _, rfl, " ", L, ws, rfl, rfl, .inl hL, ?_, ?_⟩
    · show (ws.map (·.length)).sum + ws.length * 1 ≤ 16777216
      omega
    refine ⟨Txt.join " " ws, rfl, hj, ?_, ?_⟩
    · rw [words_join hwd]
      exact ⟨by rw [six]; omega, hws⟩
    rw [words_join hwd]
    unfold Tells at ht
    cases er : rdAll 4 10 ws with
    | out => rw [er] at ht; exact ht.elim
    | bad l =>
      rw [er] at ht
      subst ht
      intro dd H' s' hdd
      refine ⟨true, T.ee_NoText, fun _ a na => ?_, fun z => nomatch z⟩
      exact ⟨_, rfl, rfl, rfl, dd, _, _, rfl, hdd, rfl, ⟨_, rfl, q H' s'⟩⟩
    | ok r l =>
      obtain ⟨h, rows⟩ := r
      rw [er] at ht
      obtain ⟨rfl, b1, b2, b3, good, hsz⟩ := ht
      have np : ∀ (H' : Hp) (dd t : Addr) (pl : List Int), Same H H' → SqT K H' t (pl.map V.int) → H' dd = some (.xd [("place", .ref t)]) → Q (.int (-1)) H' := fun H' _ _ _ s' _ _ => q H' s'
      refine ⟨b1, b2, b3, good, hsz, ?_⟩
      split
      · intro H' dd t s' ht hdd
        refine ⟨false, T.ex_NoProgram_NoText, (fun z => nomatch z), fun _ => ⟨true, T.ee_NoProgram, fun _ a na => ?_, fun z => nomatch z⟩⟩
        exact ⟨1, rfl, ⟨_, rfl, q H' s'⟩⟩
      · split
        · intro H' dd t s' ht hdd
          refine ⟨false, T.ex_NoProgram_NoText, (fun z => nomatch z), fun _ => ⟨true, T.ee_NoProgram, fun _ a na => ?_, fun z => nomatch z⟩⟩
          exact ⟨1, rfl, ⟨_, rfl, q H' s'⟩⟩
        · intro p H' s' G
          exact ⟨_, rfl, q H' s'⟩
end
end TP
namespace TP
open PySem PySem.Spec PyProof.Rows L2 HX HB HG HU HH HD HS HV HQ HK HN HJ TL HM HR
/-! ### the law's rows: words and what stands there -/
def tokD (q : Str × Str) : PyData := .tuple [.str q.1, .str q.2]
def rowD (r : List (Str × Str)) : PyData := .list (r.map tokD)
abbrev AW (d g : Addr) : Addr → Prop := fun a => a ≠ d ∧ a ≠ g
def tellT (nu : Str) : List (Str × Str) := ([("tell", "w"), (nu, "c")] : List (Str × Str))
def sumsT (nm ot : Str) : List (Str × Str) := ([("(", "o"), ("sum", "s"), (nm, "c"), ("(", "o"), ("less", "s"), (ot, "c"), (nm, "c"), (")", "x")] : List (Str × Str))
def bodyT : List (Str × Str) := ([("{", "{"), ("}", "b")] : List (Str × Str))
def rowsT (nm nu ot : Str) : List (List (Str × Str)) :=
  (((((([([("put", "w"), (nm, "n"), (ot, "c")] : List (Str × Str)), ([("rest", "w"), (nu, "t")] : List (Str × Str)), ([("off", "w"), (nm, "n")] : List (Str × Str))] : List (List (Str × Str))) ++ ([(([("nest", "w"), (nm, "n")] : List (Str × Str)) ++ bodyT), (([("often", "w"), (nu, "t")] : List (Str × Str)) ++ bodyT)] : List (List (Str × Str)))) ++ ([((([("within", "w"), (ot, "t"), (nm, "n"), ("{", "{")] : List (Str × Str)) ++ tellT nu) ++ ([("}", "b")] : List (Str × Str)))] : List (List (Str × Str)))) ++ ([(((([("if", "w"), (nm, "c"), ("{", "{")] : List (Str × Str)) ++ tellT nu) ++ ([("}", "b")] : List (Str × Str))) ++ bodyT)] : List (List (Str × Str)))) ++ ([(((([("catch", "w")] : List (Str × Str)) ++ bodyT) ++ ([(nm, "n")] : List (Str × Str))) ++ bodyT), ((([("write", "w"), (nm, "n")] : List (Str × Str)) ++ sumsT nm ot) ++ ([(")", "x")] : List (Str × Str)))] : List (List (Str × Str)))) ++ ([([("take", "w"), (nm, "n"), (nm, "n")] : List (Str × Str)), ((([("shield", "w"), ("{", "{")] : List (Str × Str)) ++ tellT nu) ++ ([("}", "b")] : List (Str × Str)))] : List (List (Str × Str))))
theorem neg_int {n : Int} (hn : 0 ≤ n) : ("-" : Str) ++ intS (1 + n) = intS (-(1 + n)) := by
  refine ext_tl ?_
  have e1 : tl (("-" : Str) ++ intS (1 + n)) = tl ("-" : Str) ++ tl (intS (1 + n)) := tl_append _ _
  rw [e1, int_codes, int_codes, if_pos (by omega), if_neg (by omega), show -(-(1 + n)) = 1 + n by omega]
  have : tl ("-" : Str) = [45] := by decide +kernel
  rw [this]
  rfl
/-- a word that writes a number -/
structure Num (z : Str) : Prop where
  fig : isFig z = true
  ln : z.length ≤ 600
  ok : okS z = true
  wd : Wd z
theorem Num.int {i : Int} (h : i.natAbs ≤ 10 ^ 13) : Num (intS i) := ⟨isFig_int i, by have := int_len h; omega, okS_int i, Wd.int i⟩
section
variable {P : Program} {w : World} {K : PySem.W.Frag} {mg : Str → Option Value} {base : Heap}
theorem mx_catL {A : Addr → Prop} {σ : L2.St} {H0 : Hp} {t u : TE} {ds es : List PyData} (hA : ∀ H a, Same H0 H → H a = none → A a) (h1 : MkX K A σ H0 t (.list ds)) (h2 : MkX K A σ H0 u (.list es)) (l : ds.length + es.length ≤ 1000) : MkX K A σ H0 (tOp rCat t u) (.list (ds ++ es)) := fun H Q s q =>
  h1 H _ s fun v H1 s1 hv => h2 H1 _ (s.trans s1) fun w H2 s2 hw => by
    have hv2 := hv.same s2
    cases hv2 with
    | lst a1 e1 x1 =>
      cases hw with
      | lst a2 e2 x2 =>
        refine ⟨_, _, _, _, rfl, rfl, e1, e2, ?_, fun p np => ?_⟩
        · rw [dxAll_len x1, dxAll_len x2]
          exact Nat.le_of_lt (small1000 l)
        · exact q _ _ ((s1.trans s2).trans (same_upd np)) (.lst (hA _ _ (s.trans (s1.trans s2)) np) upd_same ((dxAll_app x1 x2).same (same_upd np)))
def spRows (K : PySem.W.Frag) : Sp := fun vs H Q _ => ∃ (d g c : Addr), vs = [.ref d] ∧ Dr H d g c ∧ ∀ nm nu ot v H', isNameL nm = true → Num nu → Num ot → Dr H' d g c → Up d g H H' → Dx K (AW d g) H' v (.list ((rowsT nm nu ot).map rowD)) → Q v H'
theorem ok_lrows (T : Tp K w mg) : FnOk P w K mg base CX0 3 T.f_lrows T.fd_lrows ["_law_draw"] (spRows K) := by
  refine T.D_lrows.F.ok sc_lrows (fun vs H Q E h => ?_) (fun cdv A outer s H vs Q E hr h => ?_)
  · obtain ⟨d, g, c, rfl, _⟩ := h
    rfl
  · obtain ⟨d, g, c, rfl, D, q⟩ := h
    have hu := hu_of hr
    refine ⟨_, (pss_cons (ps_par3 (i := 1) (j := 2) (l := 3) rfl sc_lrows.nd rfl rfl rfl (by decide) (by decide) (by decide) rfl rfl rfl (pa_cons (pcall T.D_name (ok_name T) hr (by rfl) (pa_cons (pv 0) pa_nil)) (pa_cons (pe_callTy HJ.call_strIS (by rfl) T.str (by decide +kernel) (pa_cons (pcall T.D_next (ok_next T) (hr.mono (by decide)) (by rfl) (pa_cons (pv 0) (pa_cons (pe_op op_pow pe_int pe_int) pa_nil))) pa_nil)) (pa_cons (pe_op op_add_str pe_str (pe_callTy HJ.call_strIS (by rfl) T.str (by decide +kernel) (pa_cons (pe_op op_add pe_int (pcall T.D_next (ok_next T) (hr.mono (by decide)) (by rfl) (pa_cons (pv 0) (pa_cons (pe_op op_pow pe_int pe_int) pa_nil)))) pa_nil))) pa_nil))) (by rfl))
  (pss_cons (ps_set (i := 4) sc_lrows.nd rfl (.inl rfl) (pe_lst (pa_cons (pe_tup (pa_cons pe_str (pa_cons pe_str pa_nil))) (pa_cons (pe_tup (pa_cons (pv 2) (pa_cons pe_str pa_nil))) pa_nil))))
  (pss_cons (ps_set (i := 5) sc_lrows.nd rfl (.inl rfl) (pe_lst (pa_cons (pe_tup (pa_cons pe_str (pa_cons pe_str pa_nil))) (pa_cons (pe_tup (pa_cons pe_str (pa_cons pe_str pa_nil))) (pa_cons (pe_tup (pa_cons (pv 1) (pa_cons pe_str pa_nil))) (pa_cons (pe_tup (pa_cons pe_str (pa_cons pe_str pa_nil))) (pa_cons (pe_tup (pa_cons pe_str (pa_cons pe_str pa_nil))) (pa_cons (pe_tup (pa_cons (pv 3) (pa_cons pe_str pa_nil))) (pa_cons (pe_tup (pa_cons (pv 1) (pa_cons pe_str pa_nil))) (pa_cons (pe_tup (pa_cons pe_str (pa_cons pe_str pa_nil))) pa_nil))))))))))
  (pss_cons (ps_set (i := 6) sc_lrows.nd rfl (.inl rfl) (pe_lst (pa_cons (pe_tup (pa_cons pe_str (pa_cons pe_str pa_nil))) (pa_cons (pe_tup (pa_cons pe_str (pa_cons pe_str pa_nil))) pa_nil))))
  (pss_cons (ps_set (i := 7) sc_lrows.nd rfl (.inl rfl) (pe_lst (pa_cons (pe_lst (pa_cons (pe_tup (pa_cons pe_str (pa_cons pe_str pa_nil))) (pa_cons (pe_tup (pa_cons (pv 1) (pa_cons pe_str pa_nil))) (pa_cons (pe_tup (pa_cons (pv 3) (pa_cons pe_str pa_nil))) pa_nil)))) (pa_cons (pe_lst (pa_cons (pe_tup (pa_cons pe_str (pa_cons pe_str pa_nil))) (pa_cons (pe_tup (pa_cons (pv 2) (pa_cons pe_str pa_nil))) pa_nil))) (pa_cons (pe_lst (pa_cons (pe_tup (pa_cons pe_str (pa_cons pe_str pa_nil))) (pa_cons (pe_tup (pa_cons (pv 1) (pa_cons pe_str pa_nil))) pa_nil))) pa_nil)))))
  (pss_cons (ps_set (i := 7) sc_lrows.nd rfl (.inl rfl) (pe_op op_cat (pv 7) (pe_lst (pa_cons (pe_op op_cat (pe_lst (pa_cons (pe_tup (pa_cons pe_str (pa_cons pe_str pa_nil))) (pa_cons (pe_tup (pa_cons (pv 1) (pa_cons pe_str pa_nil))) pa_nil))) (pv 6)) (pa_cons (pe_op op_cat (pe_lst (pa_cons (pe_tup (pa_cons pe_str (pa_cons pe_str pa_nil))) (pa_cons (pe_tup (pa_cons (pv 2) (pa_cons pe_str pa_nil))) pa_nil))) (pv 6)) pa_nil)))))
  (pss_cons (ps_set (i := 7) sc_lrows.nd rfl (.inl rfl) (pe_op op_cat (pv 7) (pe_lst (pa_cons (pe_op op_cat (pe_op op_cat (pe_lst (pa_cons (pe_tup (pa_cons pe_str (pa_cons pe_str pa_nil))) (pa_cons (pe_tup (pa_cons (pv 3) (pa_cons pe_str pa_nil))) (pa_cons (pe_tup (pa_cons (pv 1) (pa_cons pe_str pa_nil))) (pa_cons (pe_tup (pa_cons pe_str (pa_cons pe_str pa_nil))) pa_nil))))) (pv 4)) (pe_lst (pa_cons (pe_tup (pa_cons pe_str (pa_cons pe_str pa_nil))) pa_nil))) pa_nil))))
  (pss_cons (ps_set (i := 7) sc_lrows.nd rfl (.inl rfl) (pe_op op_cat (pv 7) (pe_lst (pa_cons (pe_op op_cat (pe_op op_cat (pe_op op_cat (pe_lst (pa_cons (pe_tup (pa_cons pe_str (pa_cons pe_str pa_nil))) (pa_cons (pe_tup (pa_cons (pv 1) (pa_cons pe_str pa_nil))) (pa_cons (pe_tup (pa_cons pe_str (pa_cons pe_str pa_nil))) pa_nil)))) (pv 4)) (pe_lst (pa_cons (pe_tup (pa_cons pe_str (pa_cons pe_str pa_nil))) pa_nil))) (pv 6)) pa_nil))))
  (pss_cons (ps_set (i := 7) sc_lrows.nd rfl (.inl rfl) (pe_op op_cat (pv 7) (pe_lst (pa_cons (pe_op op_cat (pe_op op_cat (pe_op op_cat (pe_lst (pa_cons (pe_tup (pa_cons pe_str (pa_cons pe_str pa_nil))) pa_nil)) (pv 6)) (pe_lst (pa_cons (pe_tup (pa_cons (pv 1) (pa_cons pe_str pa_nil))) pa_nil))) (pv 6)) (pa_cons (pe_op op_cat (pe_op op_cat (pe_lst (pa_cons (pe_tup (pa_cons pe_str (pa_cons pe_str pa_nil))) (pa_cons (pe_tup (pa_cons (pv 1) (pa_cons pe_str pa_nil))) pa_nil))) (pv 5)) (pe_lst (pa_cons (pe_tup (pa_cons pe_str (pa_cons pe_str pa_nil))) pa_nil))) pa_nil)))))
  (pss_one (ps_ret (pe_op op_cat (pv 7) (pe_lst (pa_cons (pe_lst (pa_cons (pe_tup (pa_cons pe_str (pa_cons pe_str pa_nil))) (pa_cons (pe_tup (pa_cons (pv 1) (pa_cons pe_str pa_nil))) (pa_cons (pe_tup (pa_cons (pv 1) (pa_cons pe_str pa_nil))) pa_nil)))) (pa_cons (pe_op op_cat (pe_op op_cat (pe_lst (pa_cons (pe_tup (pa_cons pe_str (pa_cons pe_str pa_nil))) (pa_cons (pe_tup (pa_cons pe_str (pa_cons pe_str pa_nil))) pa_nil))) (pv 4)) (pe_lst (pa_cons (pe_tup (pa_cons pe_str (pa_cons pe_str pa_nil))) pa_nil))) pa_nil))))))))))))))), ?_⟩
    refine ⟨_, rfl, d, g, c, rfl, D, fun nm H1 hnm D1 u1 => ?_⟩
    have p9 : (10 : Int) ^ (9 : Int).toNat = 1000000000 := by decide
    have lg : ∀ i : Int, 0 ≤ i → i ≤ 1000000000 → i.natAbs ≤ 10 ^ 13 := fun i h1 h2 => by
      have : (10 : Nat) ^ 13 = 10000000000000 := by decide
      omega
    have lg2 : ∀ i : Int, 0 ≤ i → i ≤ 1000000000 → i.natAbs.log2 < 1920 := fun i h1 h2 => by
      by_cases h0 : i.natAbs = 0
      · rw [h0]; decide
      · exact (Nat.log2_lt h0).mpr (Nat.lt_of_le_of_lt (lg i h1 h2) (by decide +kernel))
    refine ⟨_, rfl, 10, 9, rfl, rfl, ⟨by decide, by decide, by decide⟩, d, g, c, _, rfl, D1, by rw [p9]; decide, by rw [p9]; decide, fun r H2 r0 r1 D2 u2 => ?_⟩
    rw [p9] at r1
    refine .inl ⟨r, rfl, lg2 r r0 (by omega), ?_⟩
    refine ⟨_, rfl, 10, 9, rfl, rfl, ⟨by decide, by decide, by decide⟩, d, g, c, _, rfl, D2, by rw [p9]; decide, by rw [p9]; decide, fun t H3 t0 t1 D3 u3 => ?_⟩
    rw [p9] at t1
    refine ⟨_, _, rfl, rfl, .inl ⟨1 + t, rfl, lg2 _ (by omega) (by omega), ?_⟩⟩
    refine ⟨_, _, rfl, rfl, ?_, ?_⟩
    · have := int_len (lg (1 + t) (by omega) (by omega))
      show 1 + (intS (1 + t)).length ≤ sizeLine
      exact Nat.le_of_lt (small1000 (by omega))
    have hnu : Num (intS r) := Num.int (lg r r0 (by omega))
    have hot : Num (("-" : Str) ++ intS (1 + t)) := by
      rw [neg_int t0]
      exact Num.int (by have := lg (1 + t) (by omega) (by omega); omega)
    refine ⟨_, _, _, rfl, nx_ ?_⟩
    show tSeq (tAsg _ _) _ _ [some (.ref d), some (.str nm), some (.str (intS r)), some (.str (("-" : Str) ++ intS (1 + t))), none, none, none, none] H3
    generalize intS r = nu at hnu ⊢
    generalize ("-" : Str) ++ intS (1 + t) = ot at hot ⊢
    have u4 := (u1.trans u2).trans u3
    have D4 := D3
    have hA : ∀ H' a, Same H3 H' → H' a = none → AW d g a := fun H' a s n => ⟨(D4.apart (s.free n)).1, (D4.apart (s.free n)).2.1⟩
    have sA := Same.refl H3
    refine seq_set ?_
    refine MkX.run (K := K) (A := AW d g) (d := .list [.tuple [.str "tell", .str "w"], .tuple [.str nu, .str "c"]]) ?_ ?_
    · exact (mx_lst hA (mxa_cons (mx_of rfl (mk_tup (mk_cons mk_str (mk_cons mk_str mk_nil)))) (mxa_cons (mx_of rfl (mk_tup (mk_cons (mk_var (v := .str nu) rfl (.str _)) (mk_cons mk_str mk_nil)))) mxa_nil)) (by first | (simp; done) | (simp [tellT, sumsT, bodyT]; done)))
    intro v1 H5 s5 e1
    refine nm1 ?_
    have hA : ∀ H' a, Same H5 H' → H' a = none → AW d g a := fun H' a s n => hA H' a (s5.trans s) n
    have sA := sA.trans s5
    have d_tell : Dx K (AW d g) H5 v1 (.list ((tellT nu).map tokD)) := e1
    clear e1
    refine seq_set ?_
    refine MkX.run (K := K) (A := AW d g) (d := .list [.tuple [.str "(", .str "o"], .tuple [.str "sum", .str "s"], .tuple [.str nm, .str "c"], .tuple [.str "(", .str "o"], .tuple [.str "less", .str "s"], .tuple [.str ot, .str "c"], .tuple [.str nm, .str "c"], .tuple [.str ")", .str "x"]]) ?_ ?_
    · exact (mx_lst hA (mxa_cons (mx_of rfl (mk_tup (mk_cons mk_str (mk_cons mk_str mk_nil)))) (mxa_cons (mx_of rfl (mk_tup (mk_cons mk_str (mk_cons mk_str mk_nil)))) (mxa_cons (mx_of rfl (mk_tup (mk_cons (mk_var (v := .str nm) rfl (.str _)) (mk_cons mk_str mk_nil)))) (mxa_cons (mx_of rfl (mk_tup (mk_cons mk_str (mk_cons mk_str mk_nil)))) (mxa_cons (mx_of rfl (mk_tup (mk_cons mk_str (mk_cons mk_str mk_nil)))) (mxa_cons (mx_of rfl (mk_tup (mk_cons (mk_var (v := .str ot) rfl (.str _)) (mk_cons mk_str mk_nil)))) (mxa_cons (mx_of rfl (mk_tup (mk_cons (mk_var (v := .str nm) rfl (.str _)) (mk_cons mk_str mk_nil)))) (mxa_cons (mx_of rfl (mk_tup (mk_cons mk_str (mk_cons mk_str mk_nil)))) mxa_nil)))))))) (by first | (simp; done) | (simp [tellT, sumsT, bodyT]; done)))
    intro v2 H6 s6 e2
    refine nm1 ?_
    have hA : ∀ H' a, Same H6 H' → H' a = none → AW d g a := fun H' a s n => hA H' a (s6.trans s) n
    have sA := sA.trans s6
    have d_tell := d_tell.same s6
    have d_sums : Dx K (AW d g) H6 v2 (.list ((sumsT nm ot).map tokD)) := e2
    clear e2
    refine seq_set ?_
    refine MkX.run (K := K) (A := AW d g) (d := .list [.tuple [.str "{", .str "{"], .tuple [.str "}", .str "b"]]) ?_ ?_
    · exact (mx_lst hA (mxa_cons (mx_of rfl (mk_tup (mk_cons mk_str (mk_cons mk_str mk_nil)))) (mxa_cons (mx_of rfl (mk_tup (mk_cons mk_str (mk_cons mk_str mk_nil)))) mxa_nil)) (by first | (simp; done) | (simp [tellT, sumsT, bodyT]; done)))
    intro v3 H7 s7 e3
    refine nm1 ?_
    have hA : ∀ H' a, Same H7 H' → H' a = none → AW d g a := fun H' a s n => hA H' a (s7.trans s) n
    have sA := sA.trans s7
    have d_tell := d_tell.same s7
    have d_sums := d_sums.same s7
    have d_body : Dx K (AW d g) H7 v3 (.list ((bodyT).map tokD)) := e3
    clear e3
    refine seq_set ?_
    refine MkX.run (K := K) (A := AW d g) (d := .list [.list [.tuple [.str "put", .str "w"], .tuple [.str nm, .str "n"], .tuple [.str ot, .str "c"]], .list [.tuple [.str "rest", .str "w"], .tuple [.str nu, .str "t"]], .list [.tuple [.str "off", .str "w"], .tuple [.str nm, .str "n"]]]) ?_ ?_
    · exact (mx_lst hA (mxa_cons (mx_lst hA (mxa_cons (mx_of rfl (mk_tup (mk_cons mk_str (mk_cons mk_str mk_nil)))) (mxa_cons (mx_of rfl (mk_tup (mk_cons (mk_var (v := .str nm) rfl (.str _)) (mk_cons mk_str mk_nil)))) (mxa_cons (mx_of rfl (mk_tup (mk_cons (mk_var (v := .str ot) rfl (.str _)) (mk_cons mk_str mk_nil)))) mxa_nil))) (by first | (simp; done) | (simp [tellT, sumsT, bodyT]; done))) (mxa_cons (mx_lst hA (mxa_cons (mx_of rfl (mk_tup (mk_cons mk_str (mk_cons mk_str mk_nil)))) (mxa_cons (mx_of rfl (mk_tup (mk_cons (mk_var (v := .str nu) rfl (.str _)) (mk_cons mk_str mk_nil)))) mxa_nil)) (by first | (simp; done) | (simp [tellT, sumsT, bodyT]; done))) (mxa_cons (mx_lst hA (mxa_cons (mx_of rfl (mk_tup (mk_cons mk_str (mk_cons mk_str mk_nil)))) (mxa_cons (mx_of rfl (mk_tup (mk_cons (mk_var (v := .str nm) rfl (.str _)) (mk_cons mk_str mk_nil)))) mxa_nil)) (by first | (simp; done) | (simp [tellT, sumsT, bodyT]; done))) mxa_nil))) (by first | (simp; done) | (simp [tellT, sumsT, bodyT]; done)))
    intro v4 H8 s8 e4
    refine nm1 ?_
    have hA : ∀ H' a, Same H8 H' → H' a = none → AW d g a := fun H' a s n => hA H' a (s8.trans s) n
    have sA := sA.trans s8
    have d_tell := d_tell.same s8
    have d_sums := d_sums.same s8
    have d_body := d_body.same s8
    have d_rows_here := e4
    clear e4
    refine seq_set ?_
    refine MkX.run (K := K) (A := AW d g) (d := .list ([.list [.tuple [.str "put", .str "w"], .tuple [.str nm, .str "n"], .tuple [.str ot, .str "c"]], .list [.tuple [.str "rest", .str "w"], .tuple [.str nu, .str "t"]], .list [.tuple [.str "off", .str "w"], .tuple [.str nm, .str "n"]]] ++ [.list ([.tuple [.str "nest", .str "w"], .tuple [.str nm, .str "n"]] ++ ((bodyT).map tokD)), .list ([.tuple [.str "often", .str "w"], .tuple [.str nu, .str "t"]] ++ ((bodyT).map tokD))])) ?_ ?_
    · exact (mx_catL hA (mx_var rfl d_rows_here) (mx_lst hA (mxa_cons (mx_catL hA (mx_lst hA (mxa_cons (mx_of rfl (mk_tup (mk_cons mk_str (mk_cons mk_str mk_nil)))) (mxa_cons (mx_of rfl (mk_tup (mk_cons (mk_var (v := .str nm) rfl (.str _)) (mk_cons mk_str mk_nil)))) mxa_nil)) (by first | (simp; done) | (simp [tellT, sumsT, bodyT]; done))) (mx_var rfl d_body) (by first | (simp; done) | (simp [tellT, sumsT, bodyT]; done))) (mxa_cons (mx_catL hA (mx_lst hA (mxa_cons (mx_of rfl (mk_tup (mk_cons mk_str (mk_cons mk_str mk_nil)))) (mxa_cons (mx_of rfl (mk_tup (mk_cons (mk_var (v := .str nu) rfl (.str _)) (mk_cons mk_str mk_nil)))) mxa_nil)) (by first | (simp; done) | (simp [tellT, sumsT, bodyT]; done))) (mx_var rfl d_body) (by first | (simp; done) | (simp [tellT, sumsT, bodyT]; done))) mxa_nil)) (by first | (simp; done) | (simp [tellT, sumsT, bodyT]; done))) (by first | (simp; done) | (simp [tellT, sumsT, bodyT]; done)))
    intro v5 H9 s9 e5
    refine nm1 ?_
    have hA : ∀ H' a, Same H9 H' → H' a = none → AW d g a := fun H' a s n => hA H' a (s9.trans s) n
    have sA := sA.trans s9
    have d_tell := d_tell.same s9
    have d_sums := d_sums.same s9
    have d_body := d_body.same s9
    have d_rows_here := e5
    clear e5
    refine seq_set ?_
    refine MkX.run (K := K) (A := AW d g) (d := .list (([.list [.tuple [.str "put", .str "w"], .tuple [.str nm, .str "n"], .tuple [.str ot, .str "c"]], .list [.tuple [.str "rest", .str "w"], .tuple [.str nu, .str "t"]], .list [.tuple [.str "off", .str "w"], .tuple [.str nm, .str "n"]]] ++ [.list ([.tuple [.str "nest", .str "w"], .tuple [.str nm, .str "n"]] ++ ((bodyT).map tokD)), .list ([.tuple [.str "often", .str "w"], .tuple [.str nu, .str "t"]] ++ ((bodyT).map tokD))]) ++ [.list (([.tuple [.str "within", .str "w"], .tuple [.str ot, .str "t"], .tuple [.str nm, .str "n"], .tuple [.str "{", .str "{"]] ++ ((tellT nu).map tokD)) ++ [.tuple [.str "}", .str "b"]])])) ?_ ?_
    · exact (mx_catL hA (mx_var rfl d_rows_here) (mx_lst hA (mxa_cons (mx_catL hA (mx_catL hA (mx_lst hA (mxa_cons (mx_of rfl (mk_tup (mk_cons mk_str (mk_cons mk_str mk_nil)))) (mxa_cons (mx_of rfl (mk_tup (mk_cons (mk_var (v := .str ot) rfl (.str _)) (mk_cons mk_str mk_nil)))) (mxa_cons (mx_of rfl (mk_tup (mk_cons (mk_var (v := .str nm) rfl (.str _)) (mk_cons mk_str mk_nil)))) (mxa_cons (mx_of rfl (mk_tup (mk_cons mk_str (mk_cons mk_str mk_nil)))) mxa_nil)))) (by first | (simp; done) | (simp [tellT, sumsT, bodyT]; done))) (mx_var rfl d_tell) (by first | (simp; done) | (simp [tellT, sumsT, bodyT]; done))) (mx_lst hA (mxa_cons (mx_of rfl (mk_tup (mk_cons mk_str (mk_cons mk_str mk_nil)))) mxa_nil) (by first | (simp; done) | (simp [tellT, sumsT, bodyT]; done))) (by first | (simp; done) | (simp [tellT, sumsT, bodyT]; done))) mxa_nil) (by first | (simp; done) | (simp [tellT, sumsT, bodyT]; done))) (by first | (simp; done) | (simp [tellT, sumsT, bodyT]; done)))
    intro v6 H10 s10 e6
    refine nm1 ?_
    have hA : ∀ H' a, Same H10 H' → H' a = none → AW d g a := fun H' a s n => hA H' a (s10.trans s) n
    have sA := sA.trans s10
    have d_tell := d_tell.same s10
    have d_sums := d_sums.same s10
    have d_body := d_body.same s10
    have d_rows_here := e6
    clear e6
    refine seq_set ?_
    refine MkX.run (K := K) (A := AW d g) (d := .list ((([.list [.tuple [.str "put", .str "w"], .tuple [.str nm, .str "n"], .tuple [.str ot, .str "c"]], .list [.tuple [.str "rest", .str "w"], .tuple [.str nu, .str "t"]], .list [.tuple [.str "off", .str "w"], .tuple [.str nm, .str "n"]]] ++ [.list ([.tuple [.str "nest", .str "w"], .tuple [.str nm, .str "n"]] ++ ((bodyT).map tokD)), .list ([.tuple [.str "often", .str "w"], .tuple [.str nu, .str "t"]] ++ ((bodyT).map tokD))]) ++ [.list (([.tuple [.str "within", .str "w"], .tuple [.str ot, .str "t"], .tuple [.str nm, .str "n"], .tuple [.str "{", .str "{"]] ++ ((tellT nu).map tokD)) ++ [.tuple [.str "}", .str "b"]])]) ++ [.list ((([.tuple [.str "if", .str "w"], .tuple [.str nm, .str "c"], .tuple [.str "{", .str "{"]] ++ ((tellT nu).map tokD)) ++ [.tuple [.str "}", .str "b"]]) ++ ((bodyT).map tokD))])) ?_ ?_
    · exact (mx_catL hA (mx_var rfl d_rows_here) (mx_lst hA (mxa_cons (mx_catL hA (mx_catL hA (mx_catL hA (mx_lst hA (mxa_cons (mx_of rfl (mk_tup (mk_cons mk_str (mk_cons mk_str mk_nil)))) (mxa_cons (mx_of rfl (mk_tup (mk_cons (mk_var (v := .str nm) rfl (.str _)) (mk_cons mk_str mk_nil)))) (mxa_cons (mx_of rfl (mk_tup (mk_cons mk_str (mk_cons mk_str mk_nil)))) mxa_nil))) (by first | (simp; done) | (simp [tellT, sumsT, bodyT]; done))) (mx_var rfl d_tell) (by first | (simp; done) | (simp [tellT, sumsT, bodyT]; done))) (mx_lst hA (mxa_cons (mx_of rfl (mk_tup (mk_cons mk_str (mk_cons mk_str mk_nil)))) mxa_nil) (by first | (simp; done) | (simp [tellT, sumsT, bodyT]; done))) (by first | (simp; done) | (simp [tellT, sumsT, bodyT]; done))) (mx_var rfl d_body) (by first | (simp; done) | (simp [tellT, sumsT, bodyT]; done))) mxa_nil) (by first | (simp; done) | (simp [tellT, sumsT, bodyT]; done))) (by first | (simp; done) | (simp [tellT, sumsT, bodyT]; done)))
    intro v7 H11 s11 e7
    refine nm1 ?_
    have hA : ∀ H' a, Same H11 H' → H' a = none → AW d g a := fun H' a s n => hA H' a (s11.trans s) n
    have sA := sA.trans s11
    have d_tell := d_tell.same s11
    have d_sums := d_sums.same s11
    have d_body := d_body.same s11
    have d_rows_here := e7
    clear e7
    refine seq_set ?_
    refine MkX.run (K := K) (A := AW d g) (d := .list (((([.list [.tuple [.str "put", .str "w"], .tuple [.str nm, .str "n"], .tuple [.str ot, .str "c"]], .list [.tuple [.str "rest", .str "w"], .tuple [.str nu, .str "t"]], .list [.tuple [.str "off", .str "w"], .tuple [.str nm, .str "n"]]] ++ [.list ([.tuple [.str "nest", .str "w"], .tuple [.str nm, .str "n"]] ++ ((bodyT).map tokD)), .list ([.tuple [.str "often", .str "w"], .tuple [.str nu, .str "t"]] ++ ((bodyT).map tokD))]) ++ [.list (([.tuple [.str "within", .str "w"], .tuple [.str ot, .str "t"], .tuple [.str nm, .str "n"], .tuple [.str "{", .str "{"]] ++ ((tellT nu).map tokD)) ++ [.tuple [.str "}", .str "b"]])]) ++ [.list ((([.tuple [.str "if", .str "w"], .tuple [.str nm, .str "c"], .tuple [.str "{", .str "{"]] ++ ((tellT nu).map tokD)) ++ [.tuple [.str "}", .str "b"]]) ++ ((bodyT).map tokD))]) ++ [.list ((([.tuple [.str "catch", .str "w"]] ++ ((bodyT).map tokD)) ++ [.tuple [.str nm, .str "n"]]) ++ ((bodyT).map tokD)), .list (([.tuple [.str "write", .str "w"], .tuple [.str nm, .str "n"]] ++ ((sumsT nm ot).map tokD)) ++ [.tuple [.str ")", .str "x"]])])) ?_ ?_
    · exact (mx_catL hA (mx_var rfl d_rows_here) (mx_lst hA (mxa_cons (mx_catL hA (mx_catL hA (mx_catL hA (mx_lst hA (mxa_cons (mx_of rfl (mk_tup (mk_cons mk_str (mk_cons mk_str mk_nil)))) mxa_nil) (by first | (simp; done) | (simp [tellT, sumsT, bodyT]; done))) (mx_var rfl d_body) (by first | (simp; done) | (simp [tellT, sumsT, bodyT]; done))) (mx_lst hA (mxa_cons (mx_of rfl (mk_tup (mk_cons (mk_var (v := .str nm) rfl (.str _)) (mk_cons mk_str mk_nil)))) mxa_nil) (by first | (simp; done) | (simp [tellT, sumsT, bodyT]; done))) (by first | (simp; done) | (simp [tellT, sumsT, bodyT]; done))) (mx_var rfl d_body) (by first | (simp; done) | (simp [tellT, sumsT, bodyT]; done))) (mxa_cons (mx_catL hA (mx_catL hA (mx_lst hA (mxa_cons (mx_of rfl (mk_tup (mk_cons mk_str (mk_cons mk_str mk_nil)))) (mxa_cons (mx_of rfl (mk_tup (mk_cons (mk_var (v := .str nm) rfl (.str _)) (mk_cons mk_str mk_nil)))) mxa_nil)) (by first | (simp; done) | (simp [tellT, sumsT, bodyT]; done))) (mx_var rfl d_sums) (by first | (simp; done) | (simp [tellT, sumsT, bodyT]; done))) (mx_lst hA (mxa_cons (mx_of rfl (mk_tup (mk_cons mk_str (mk_cons mk_str mk_nil)))) mxa_nil) (by first | (simp; done) | (simp [tellT, sumsT, bodyT]; done))) (by first | (simp; done) | (simp [tellT, sumsT, bodyT]; done))) mxa_nil)) (by first | (simp; done) | (simp [tellT, sumsT, bodyT]; done))) (by first | (simp; done) | (simp [tellT, sumsT, bodyT]; done)))
    intro v8 H12 s12 e8
    refine nm1 ?_
    have hA : ∀ H' a, Same H12 H' → H' a = none → AW d g a := fun H' a s n => hA H' a (s12.trans s) n
    have sA := sA.trans s12
    have d_tell := d_tell.same s12
    have d_sums := d_sums.same s12
    have d_body := d_body.same s12
    have d_rows_here := e8
    clear e8
    refine one_ret ?_
    refine MkX.run (K := K) (A := AW d g) (d := .list ((((([.list [.tuple [.str "put", .str "w"], .tuple [.str nm, .str "n"], .tuple [.str ot, .str "c"]], .list [.tuple [.str "rest", .str "w"], .tuple [.str nu, .str "t"]], .list [.tuple [.str "off", .str "w"], .tuple [.str nm, .str "n"]]] ++ [.list ([.tuple [.str "nest", .str "w"], .tuple [.str nm, .str "n"]] ++ ((bodyT).map tokD)), .list ([.tuple [.str "often", .str "w"], .tuple [.str nu, .str "t"]] ++ ((bodyT).map tokD))]) ++ [.list (([.tuple [.str "within", .str "w"], .tuple [.str ot, .str "t"], .tuple [.str nm, .str "n"], .tuple [.str "{", .str "{"]] ++ ((tellT nu).map tokD)) ++ [.tuple [.str "}", .str "b"]])]) ++ [.list ((([.tuple [.str "if", .str "w"], .tuple [.str nm, .str "c"], .tuple [.str "{", .str "{"]] ++ ((tellT nu).map tokD)) ++ [.tuple [.str "}", .str "b"]]) ++ ((bodyT).map tokD))]) ++ [.list ((([.tuple [.str "catch", .str "w"]] ++ ((bodyT).map tokD)) ++ [.tuple [.str nm, .str "n"]]) ++ ((bodyT).map tokD)), .list (([.tuple [.str "write", .str "w"], .tuple [.str nm, .str "n"]] ++ ((sumsT nm ot).map tokD)) ++ [.tuple [.str ")", .str "x"]])]) ++ [.list [.tuple [.str "take", .str "w"], .tuple [.str nm, .str "n"], .tuple [.str nm, .str "n"]], .list (([.tuple [.str "shield", .str "w"], .tuple [.str "{", .str "{"]] ++ ((tellT nu).map tokD)) ++ [.tuple [.str "}", .str "b"]])])) ?_ ?_
    · exact (mx_catL hA (mx_var rfl d_rows_here) (mx_lst hA (mxa_cons (mx_lst hA (mxa_cons (mx_of rfl (mk_tup (mk_cons mk_str (mk_cons mk_str mk_nil)))) (mxa_cons (mx_of rfl (mk_tup (mk_cons (mk_var (v := .str nm) rfl (.str _)) (mk_cons mk_str mk_nil)))) (mxa_cons (mx_of rfl (mk_tup (mk_cons (mk_var (v := .str nm) rfl (.str _)) (mk_cons mk_str mk_nil)))) mxa_nil))) (by first | (simp; done) | (simp [tellT, sumsT, bodyT]; done))) (mxa_cons (mx_catL hA (mx_catL hA (mx_lst hA (mxa_cons (mx_of rfl (mk_tup (mk_cons mk_str (mk_cons mk_str mk_nil)))) (mxa_cons (mx_of rfl (mk_tup (mk_cons mk_str (mk_cons mk_str mk_nil)))) mxa_nil)) (by first | (simp; done) | (simp [tellT, sumsT, bodyT]; done))) (mx_var rfl d_tell) (by first | (simp; done) | (simp [tellT, sumsT, bodyT]; done))) (mx_lst hA (mxa_cons (mx_of rfl (mk_tup (mk_cons mk_str (mk_cons mk_str mk_nil)))) mxa_nil) (by first | (simp; done) | (simp [tellT, sumsT, bodyT]; done))) (by first | (simp; done) | (simp [tellT, sumsT, bodyT]; done))) mxa_nil)) (by first | (simp; done) | (simp [tellT, sumsT, bodyT]; done))) (by first | (simp; done) | (simp [tellT, sumsT, bodyT]; done)))
    intro v9 H13 s13 e9
    exact q nm nu ot v9 H13 hnm hnu hot (D4.same (sA.trans s13)) (u4.trans (Up.of (sA.trans s13))) e9
end
end TP
namespace TP
open PySem PySem.Spec PyProof.Rows L2 HX HB HG HU HH HD HS HV HQ HK HN HJ TL HM HR
/-! ### words that can't stand there, and others that can -/
def kinds9 : List Str := ["n", "t", "c", "s", "o", "x", "{", "b", "w"]
def badW (k : Str) : List Str := if k = "n" then ["5", "-1", "{", "}", "(", "A", "a1", "abcdefg", "_", "a-b"] else if k = "s" then ["plus", "5", "(", "A", "minuss"]
  else if k = "t" then ["a", "-", "-0", "00", "007", "+1", "1a", "{", "(", "1-", "--1", "-01"] else if k = "c" then ["-0", "00", "A", "abcdefg", "{", "}", ")", "+1", "1x", "-", "01", "a_b"]
  else if k = "o" then ["-0", "A", ")", "{", "((", "(sum"] else if k = "w" then ["puts", "Put", "5", "{", "(", ")", "sum", "shields"] else if k = "{" then ["}", "(", "a", "5", "put", ")"]
  else if k = "b" then ["{", "(", "5", "aa", ")"] else ["}", "(", "a", "5"]
/-- a word of a text -/
structure Wk (z : Str) : Prop where
  len : z.length ≤ 600
  ok : okS z = true
  wd : Wd z
def wkB (z : Str) : Bool := decide (z.length ≤ 600) && (okS z && (decide (tl z ≠ []) && (tl z).all fun c => !isSep c))
theorem wkB_ok {z : Str} (h : wkB z = true) : Wk z := by
  unfold wkB at h
  simp only [Bool.and_eq_true, decide_eq_true_eq, List.all_eq_true, Bool.not_eq_true'] at h
  exact ⟨h.1, h.2.1, h.2.2.1, h.2.2.2⟩
theorem bad_ok {k b : Str} (hk : k ∈ kinds9) (hb : b ∈ badW k) : Bad k b = true ∧ Wk b ∧ (k = "w" → isHead b = false) := by
  have h : ∀ k ∈ kinds9, ∀ b ∈ badW k, Bad k b = true ∧ wkB b = true ∧ (k = "w" → isHead b = false) := by decide +kernel
  obtain ⟨h1, h2, h3⟩ := h k hk b hb
  exact ⟨h1, wkB_ok h2, h3⟩
structure Bd (H : Hp) (p : Addr) (H' : Hp) (kvs : List (Key × V)) (B : List Addr) (L : List (Str × Addr)) : Prop where
  old : Same H H'
  np : H p = none
  d : H' p = some (.dK kvs)
  loose : ∀ b ∈ B, H b = none ∧ b ≠ p ∧ H' b ≠ none ∧ ∀ q ∈ L, q.2 ≠ b
  each : ∀ q ∈ L, q.2 ≠ p ∧ H' q.2 = some (.lst ((badW q.1).map V.str))
section
variable {H H' : Hp} {p a b : Addr} {kvs kvs' : List (Key × V)} {B : List Addr} {L : List (Str × Addr)}
theorem Bd.nep (x : Bd H p H' kvs B L) (n : H' a = none) : a ≠ p := fun e => by rw [e, x.d] at n; cases n
theorem Bd.new (x : Bd H p H' kvs B L) (n : H' a = none) (k : Str) {o : HO} (ho : o = .lst ((badW k).map V.str)) : Bd H p (upd H' a o) kvs B ((k, a) :: L) := by
  subst ho
  refine ⟨x.old.trans (same_upd n), x.np, (same_upd n) _ _ x.d, fun b hb => ?_, fun q hq => ?_⟩
  · obtain ⟨h1, h2, h3, h4⟩ := x.loose b hb
    have hab : b ≠ a := fun e => h3 (by rw [e]; exact n)
    refine ⟨h1, h2, by rw [upd_ne hab]; exact h3, fun q hq => ?_⟩
    rcases List.mem_cons.mp hq with rfl | hq
    · exact fun e => hab e.symm
    · exact h4 q hq
  · rcases List.mem_cons.mp hq with rfl | hq
    · exact ⟨x.nep n, upd_same⟩
    · obtain ⟨h1, h2⟩ := x.each q hq
      exact ⟨h1, (same_upd n) _ _ h2⟩
theorem Bd.low (x : Bd H p H' kvs B L) (n : H' a = none) {o : HO} : Bd H p (upd H' a o) kvs (a :: B) L := by
  refine ⟨x.old.trans (same_upd n), x.np, (same_upd n) _ _ x.d, fun b hb => ?_, fun q hq => ?_⟩
  · rcases List.mem_cons.mp hb with rfl | hb
    · refine ⟨?_, x.nep n, by rw [upd_same]; simp, fun q hq e => ?_⟩
      · cases e : H b with
        | none => rfl
        | some o => rw [x.old _ _ e] at n; cases n
      · obtain ⟨_, h2⟩ := x.each q hq
        rw [e, n] at h2; cases h2
    · obtain ⟨h1, h2, h3, h4⟩ := x.loose b hb
      exact ⟨h1, h2, by rw [upd_ne (fun e => h3 (by rw [e]; exact n))]; exact h3, h4⟩
  · obtain ⟨h1, h2⟩ := x.each q hq
    exact ⟨h1, (same_upd n) _ _ h2⟩
theorem Bd.setp (x : Bd H p H' kvs B L) : Bd H p (upd H' p (.dK kvs')) kvs' B L := by
  refine ⟨fun y o e => ?_, x.np, upd_same, fun b hb => ?_, fun q hq => ?_⟩
  · rw [upd_ne (fun e2 => by rw [e2, x.np] at e; cases e)]
    exact x.old _ _ e
  · obtain ⟨h1, h2, h3, h4⟩ := x.loose b hb
    exact ⟨h1, h2, by rw [upd_ne h2]; exact h3, h4⟩
  · obtain ⟨h1, h2⟩ := x.each q hq
    exact ⟨h1, by rw [upd_ne h1]; exact h2⟩
theorem Bd.setb (x : Bd H p H' kvs B L) (hb : b ∈ B) {o : HO} : Bd H p (upd H' b o) kvs B L := by
  obtain ⟨k1, k2, k3, k4⟩ := x.loose b hb
  refine ⟨fun y o e => ?_, x.np, by rw [upd_ne (Ne.symm k2)]; exact x.d, fun c hc => ?_, fun q hq => ?_⟩
  · rw [upd_ne (fun e2 => by rw [e2, k1] at e; cases e)]
    exact x.old _ _ e
  · obtain ⟨h1, h2, h3, h4⟩ := x.loose c hc
    refine ⟨h1, h2, ?_, h4⟩
    by_cases e : c = b
    · subst e; rw [upd_same]; simp
    · rw [upd_ne e]; exact h3
  · obtain ⟨h1, h2⟩ := x.each q hq
    exact ⟨h1, by rw [upd_ne (k4 q hq)]; exact h2⟩
end
section
variable {P : Program} {w : World} {K : PySem.W.Frag} {mg : Str → Option Value} {base : Heap}
def spBad (K : PySem.W.Frag) : Sp := fun vs H Q _ => ∃ k : Str, vs = [.str k] ∧ k ∈ kinds9 ∧ ∀ L H', Same H H' → SqL K H' L ((badW k).map V.str) → Q (.ref L) H'
theorem ok_lbad (T : Tp K w mg) : FnOk P w K mg base CX0 1 T.f_lbad T.fd_lbad ["_law_kind"] (spBad K) := by
  refine T.D_lbad.F.ok sc_lbad (fun vs H Q E h => ?_) (fun cdv A outer s H vs Q E hr h => ?_)
  · obtain ⟨k, rfl, _⟩ := h
    rfl
  · obtain ⟨k, rfl, hk, q⟩ := h
    have hu := hu_of hr
    refine ⟨_, (pss_cons (ps_set (i := 1) sc_lbad.nd rfl (.inl rfl) (pe_disp (pps_cons pe_str (pe_lst (pa_cons pe_str (pa_cons pe_str (pa_cons pe_str (pa_cons pe_str (pa_cons pe_str (pa_cons pe_str (pa_cons pe_str (pa_cons pe_str (pa_cons pe_str (pa_cons pe_str pa_nil))))))))))) (pps_cons pe_str (pe_lst (pa_cons pe_str (pa_cons pe_str (pa_cons pe_str (pa_cons pe_str (pa_cons pe_str pa_nil)))))) pps_nil)) (by rfl) (by rfl) (fun z => by cases z) (by decide)))
  (pss_cons (ps_dput hu (pv 1) pe_str (pe_lst (pa_cons pe_str (pa_cons pe_str (pa_cons pe_str (pa_cons pe_str (pa_cons pe_str (pa_cons pe_str (pa_cons pe_str (pa_cons pe_str (pa_cons pe_str (pa_cons pe_str (pa_cons pe_str (pa_cons pe_str pa_nil))))))))))))) rfl)
  (pss_cons (ps_dput hu (pv 1) pe_str (pe_lst (pa_cons pe_str (pa_cons pe_str (pa_cons pe_str (pa_cons pe_str (pa_cons pe_str (pa_cons pe_str (pa_cons pe_str (pa_cons pe_str (pa_cons pe_str (pa_cons pe_str (pa_cons pe_str (pa_cons pe_str pa_nil))))))))))))) rfl)
  (pss_cons (ps_expr (pe_dupd (pv 1) (pe_disp (pps_cons pe_str (pe_lst (pa_cons pe_str (pa_cons pe_str (pa_cons pe_str (pa_cons pe_str (pa_cons pe_str (pa_cons pe_str pa_nil))))))) (pps_cons pe_str (pe_lst (pa_cons pe_str (pa_cons pe_str (pa_cons pe_str (pa_cons pe_str (pa_cons pe_str (pa_cons pe_str (pa_cons pe_str (pa_cons pe_str pa_nil))))))))) pps_nil)) (by rfl) (by rfl) (fun z => by cases z) (by decide)) ⟨by rfl, by rfl, by rfl, by rfl⟩))
  (pss_cons (ps_expr (pe_dupd (pv 1) (pe_disp (pps_cons pe_str (pe_lst (pa_cons pe_str (pa_cons pe_str (pa_cons pe_str (pa_cons pe_str (pa_cons pe_str (pa_cons pe_str pa_nil))))))) (pps_cons pe_str (pe_lst (pa_cons pe_str (pa_cons pe_str (pa_cons pe_str (pa_cons pe_str (pa_cons pe_str pa_nil)))))) (pps_cons pe_str (pe_lst (pa_cons pe_str (pa_cons pe_str (pa_cons pe_str (pa_cons pe_str pa_nil))))) pps_nil))) (by rfl) (by rfl) (fun z => by cases z) (by decide)) ⟨by rfl, by rfl, by rfl, by rfl⟩))
  (pss_one (ps_ret (pe_dget hu (pv 1) (pv 0) (fun _ _ => rfl))))))))), ?_⟩
    intro p np
    have B : Bd H p (upd H p (.dK [])) [] [] [] := ⟨same_upd np, np, upd_same, fun _ h => (nomatch h), fun _ h => (nomatch h)⟩
    refine ⟨by decide, fun a1 n1 => ?_⟩
    have B := B.new n1 "n" rfl
    refine ⟨by decide, fun a2 n2 => ?_⟩
    have B := B.new n2 "s" rfl
    refine ⟨B.d, [(Sum.inr "n", .ref a1), (Sum.inr "s", .ref a2)], rfl, Nat.le_of_ble_eq_true rfl, nm1 ?_⟩
    have B := B.setp (kvs' := mergeK [] [(Sum.inr "n", .ref a1), (Sum.inr "s", .ref a2)])
    refine ⟨by decide, fun a3 n3 => ?_⟩
    have B := B.new n3 "t" rfl
    refine ⟨_, rfl, _, _, rfl, .inl ⟨_, Sum.inr "t", B.d, rfl, Nat.le_of_ble_eq_true (by kernel_rfl), rfl⟩, nx_ ?_⟩
    have B := B.setp (kvs' := putK (mergeK [] [(Sum.inr "n", .ref a1), (Sum.inr "s", .ref a2)]) (Sum.inr "t") (.ref a3))
    refine ⟨by decide, fun a4 n4 => ?_⟩
    have B := B.new n4 "c" rfl
    refine ⟨_, rfl, _, _, rfl, .inl ⟨_, Sum.inr "c", B.d, rfl, Nat.le_of_ble_eq_true (by kernel_rfl), rfl⟩, nx_ ?_⟩
    have B := B.setp (kvs' := putK (putK (mergeK [] [(Sum.inr "n", .ref a1), (Sum.inr "s", .ref a2)]) (Sum.inr "t") (.ref a3)) (Sum.inr "c") (.ref a4))
    refine ⟨_, rfl, p, rfl, (.inl ⟨_, .inl B.d⟩), fun p1 np1 => ?_⟩
    have pp1 : p ≠ p1 := (B.nep np1).symm
    have B := B.low np1 (o := .dK [])
    refine ⟨by decide, fun a5 n5 => ?_⟩
    have B := B.new n5 "o" rfl
    refine ⟨by decide, fun a6 n6 => ?_⟩
    have B := B.new n6 "w" rfl
    refine ⟨((same_upd n6) _ _ ((same_upd n5) _ _ (upd_same))), [(Sum.inr "o", .ref a5), (Sum.inr "w", .ref a6)], rfl, Nat.le_of_ble_eq_true rfl, ?_⟩
    have B := B.setb (b := p1) (List.mem_cons_self ..) (o := .dK (mergeK [] [(Sum.inr "o", .ref a5), (Sum.inr "w", .ref a6)]))
    refine ⟨p1, _, _, rfl, pp1, B.d, upd_same, Nat.le_of_ble_eq_true (by kernel_rfl), nx_ ?_⟩
    have B := B.setp (kvs' := mergeK (putK (putK (mergeK [] [(Sum.inr "n", .ref a1), (Sum.inr "s", .ref a2)]) (Sum.inr "t") (.ref a3)) (Sum.inr "c") (.ref a4)) (mergeK [] [(Sum.inr "o", .ref a5), (Sum.inr "w", .ref a6)]))
    refine ⟨_, rfl, p, rfl, (.inl ⟨_, .inl B.d⟩), fun p2 np2 => ?_⟩
    have pp2 : p ≠ p2 := (B.nep np2).symm
    have B := B.low np2 (o := .dK [])
    refine ⟨by decide, fun a7 n7 => ?_⟩
    have B := B.new n7 "{" rfl
    refine ⟨by decide, fun a8 n8 => ?_⟩
    have B := B.new n8 "b" rfl
    refine ⟨by decide, fun a9 n9 => ?_⟩
    have B := B.new n9 "x" rfl
    refine ⟨((same_upd n9) _ _ ((same_upd n8) _ _ ((same_upd n7) _ _ (upd_same)))), [(Sum.inr "{", .ref a7), (Sum.inr "b", .ref a8), (Sum.inr "x", .ref a9)], rfl, Nat.le_of_ble_eq_true rfl, ?_⟩
    have B := B.setb (b := p2) (List.mem_cons_self ..) (o := .dK (mergeK [] [(Sum.inr "{", .ref a7), (Sum.inr "b", .ref a8), (Sum.inr "x", .ref a9)]))
    refine ⟨p2, _, _, rfl, pp2, B.d, upd_same, Nat.le_of_ble_eq_true (by kernel_rfl), nx_ ?_⟩
    have B := B.setp (kvs' := mergeK (mergeK (putK (putK (mergeK [] [(Sum.inr "n", .ref a1), (Sum.inr "s", .ref a2)]) (Sum.inr "t") (.ref a3)) (Sum.inr "c") (.ref a4)) (mergeK [] [(Sum.inr "o", .ref a5), (Sum.inr "w", .ref a6)])) (mergeK [] [(Sum.inr "{", .ref a7), (Sum.inr "b", .ref a8), (Sum.inr "x", .ref a9)]))
    refine ⟨_, rfl, _, rfl, p, ?_⟩
    simp only [kinds9, List.mem_cons, List.not_mem_nil, or_false] at hk
    rcases hk with rfl | rfl | rfl | rfl | rfl | rfl | rfl | rfl | rfl
    · exact ⟨.ref a1, rfl, .inl ⟨_, Sum.inr "n", .inl B.d, rfl, by kernel_rfl⟩, q _ _ B.old (.of (B.each ("n", a1) (by simp)).2)⟩
    · exact ⟨.ref a3, rfl, .inl ⟨_, Sum.inr "t", .inl B.d, rfl, by kernel_rfl⟩, q _ _ B.old (.of (B.each ("t", a3) (by simp)).2)⟩
    · exact ⟨.ref a4, rfl, .inl ⟨_, Sum.inr "c", .inl B.d, rfl, by kernel_rfl⟩, q _ _ B.old (.of (B.each ("c", a4) (by simp)).2)⟩
    · exact ⟨.ref a2, rfl, .inl ⟨_, Sum.inr "s", .inl B.d, rfl, by kernel_rfl⟩, q _ _ B.old (.of (B.each ("s", a2) (by simp)).2)⟩
    · exact ⟨.ref a5, rfl, .inl ⟨_, Sum.inr "o", .inl B.d, rfl, by kernel_rfl⟩, q _ _ B.old (.of (B.each ("o", a5) (by simp)).2)⟩
    · exact ⟨.ref a9, rfl, .inl ⟨_, Sum.inr "x", .inl B.d, rfl, by kernel_rfl⟩, q _ _ B.old (.of (B.each ("x", a9) (by simp)).2)⟩
    · exact ⟨.ref a7, rfl, .inl ⟨_, Sum.inr "{", .inl B.d, rfl, by kernel_rfl⟩, q _ _ B.old (.of (B.each ("{", a7) (by simp)).2)⟩
    · exact ⟨.ref a8, rfl, .inl ⟨_, Sum.inr "b", .inl B.d, rfl, by kernel_rfl⟩, q _ _ B.old (.of (B.each ("b", a8) (by simp)).2)⟩
    · exact ⟨.ref a6, rfl, .inl ⟨_, Sum.inr "w", .inl B.d, rfl, by kernel_rfl⟩, q _ _ B.old (.of (B.each ("w", a6) (by simp)).2)⟩
end
end TP
namespace TP
open PySem PySem.Spec PyProof.Rows L2 HX HB HG HU HH HD HS HV HQ HK HN HJ TL HM
/-! ### what the law's texts come to -/
def isVar (k : Str) : Bool := decide (k = "n") || (decide (k = "t") || decide (k = "c"))
def fP (w : Str) (q : Str × Str) : Bool := !isVar q.2 && decide (q.1 = w)
structure Rest (R : List (Str × Str)) : Prop where
  abs : absA [.rows ""] R = some [.rows ""]
  acc : ∀ q ∈ R, Acc q.2 q.1 = true ∧ (q.1.length ≤ 600 ∧ okS q.1 = true) ∧ Wd q.1 ∧ q.2 ∈ kinds9
  len : R.length ≤ 900
  c1 : R.countP (fP "(") ≤ 2
  c2 : R.countP (fP "{") ≤ 8
  fst : ∃ w t, R = (w, ("w" : Str)) :: t ∧ isHead w = false
theorem isFig_open : isFig "(" = false ∧ isFig "{" = false ∧ isNameL "(" = false ∧ isNameL "{" = false := by decide +kernel
theorem acc_not {k z : Str} (h : isVar k = true) (ha : Acc k z = true) : z ≠ ("(" : Str) ∧ z ≠ ("{" : Str) := by
  have e : ∀ y : Str, isFig y = false → isNameL y = false → Acc k y = false := fun y h1 h2 => by
    unfold isVar at h
    simp only [Bool.or_eq_true, decide_eq_true_eq] at h
    rcases h with rfl | rfl | rfl
    · exact h2
    · exact h1
    · show (isFig y || isNameL y) = false
      rw [h1, h2]; rfl
  obtain ⟨a1, a2, a3, a4⟩ := isFig_open
  exact ⟨fun h => (by rw [h, e _ a1 a3] at ha; cases ha), fun h => (by rw [h, e _ a2 a4] at ha; cases ha)⟩
theorem count_le {w : Str} (hw : w = ("(" : Str) ∨ w = ("{" : Str)) : ∀ {R : List (Str × Str)}, (∀ q ∈ R, Acc q.2 q.1 = true) → (R.map (·.1)).count w ≤ R.countP (fP w)
  | [], _ => Nat.le_refl _
  | q :: R, h => by
    have ih := count_le hw (R := R) fun p hp => h p (List.mem_cons_of_mem _ hp)
    have hq := h q (List.mem_cons_self ..)
    rw [List.map_cons, List.count_cons, List.countP_cons]
    by_cases e : q.1 = w
    · have : fP w q = true := by
        unfold fP
        cases hv : isVar q.2 with
        | false => simp [e]
        | true =>
          have := acc_not hv hq
          rw [e] at this
          rcases hw with rfl | rfl
          · exact absurd rfl this.1
          · exact absurd rfl this.2
      rw [if_pos this]
      split <;> omega
    · rw [if_neg (by simpa using e)]
      split <;> omega
theorem Rest.ws {R : List (Str × Str)} (r : Rest R) : WsP (R.map (·.1)) := fun w hw => by
  obtain ⟨q, hq, rfl⟩ := List.mem_map.mp hw
  exact (r.acc q hq).2.1
theorem hd_cnt {z y z2 : Str} (n1 : isNameL z = true) (n2 : isFig y = true) (n3 : isNameL z2 = true) : (hd5 z y z2).count ("(" : Str) = 0 ∧ (hd5 z y z2).count ("{" : Str) = 0 := by
  have key : ∀ w : Str, isFig w = false → isNameL w = false → w ≠ ("cell" : Str) → w ≠ ("lock" : Str) → (hd5 z y z2).count w = 0 := fun w a1 a3 b1 b2 => by
    refine List.count_eq_zero.mpr fun hw => ?_
    simp only [hd5, List.mem_cons, List.not_mem_nil, or_false] at hw
    rcases hw with h | h | h | h | h
    · exact b1 h
    · rw [← h, a3] at n1; cases n1
    · rw [← h, a1] at n2; cases n2
    · exact b2 h
    · rw [← h, a3] at n3; cases n3
  obtain ⟨a1, a2, a3, a4⟩ := isFig_open
  exact ⟨key _ a1 a3 (by decide +kernel) (by decide +kernel), key _ a2 a4 (by decide +kernel) (by decide +kernel)⟩
theorem Rest.few {R : List (Str × Str)} (r : Rest R) {z y z2 : Str} (hz : Wk z) (hy : Wk y) (hz2 : Wk z2) (n1 : isNameL z = true) (n2 : isFig y = true) (n3 : isNameL z2 = true) : Few (hd5 z y z2 ++ R.map (·.1)) := by
  refine ⟨fun w hw => ?_, ?_, ?_, ?_⟩
  · rcases List.mem_append.mp hw with h | h
    · simp only [hd5, List.mem_cons, List.not_mem_nil, or_false] at h
      rcases h with rfl | rfl | rfl | rfl | rfl
      · exact ⟨by decide, by decide +kernel⟩
      · exact ⟨hz.len, hz.ok⟩
      · exact ⟨hy.len, hy.ok⟩
      · exact ⟨by decide, by decide +kernel⟩
      · exact ⟨hz2.len, hz2.ok⟩
    · exact r.ws w h
  · have := r.len
    rw [List.length_append, List.length_map]
    show 5 + _ ≤ 1000
    omega
  · have h0 := count_le (w := "(") (.inl rfl) fun q hq => (r.acc q hq).1
    have h1 := r.c1
    rw [List.count_append, (hd_cnt n1 n2 n3).1]
    omega
  · have h0 := count_le (w := "{") (.inr rfl) fun q hq => (r.acc q hq).1
    have h1 := r.c2
    rw [List.count_append, (hd_cnt n1 n2 n3).2]
    omega
theorem Rest.hd {R : List (Str × Str)} (r : Rest R) : isHead (nx (R.map (·.1))) = false := by
  obtain ⟨w, t, rfl, h⟩ := r.fst
  exact h
/-- right words -/
theorem rest_right {R : List (Str × Str)} (r : Rest R) {z y z2 : Str} (hz : Wk z) (hy : Wk y) (hz2 : Wk z2) (n1 : isNameL z = true) (n2 : isFig y = true) (n3 : isNameL z2 = true) : Tells (hd5 z y z2 ++ R.map (·.1)) (-1) :=
  (tells_rows n1 n2 n3 r.hd (r.few hz hy hz2 n1 n2 n3)).1 (toks_good r.abs fun q hq => (r.acc q hq).1)
/-- a word that can't stand there -/
theorem rest_bad {pre suf : List (Str × Str)} {zz k b : Str} (r : Rest (pre ++ (zz, k) :: suf)) (hb : b ∈ badW k) {z y z2 : Str} (hz : Wk z) (hy : Wk y) (hz2 : Wk z2) (n1 : isNameL z = true) (n2 : isFig y = true) (n3 : isNameL z2 = true) :
    Tells (hd5 z y z2 ++ (pre.map (·.1) ++ b :: suf.map (·.1))) ((5 + pre.length : Nat) : Int) := by
  have hk : k ∈ kinds9 := (r.acc (zz, k) (List.mem_append_right _ (List.mem_cons_self ..))).2.2.2
  obtain ⟨hB, kb, kh⟩ := bad_ok hk hb
  have f := r.few hz hy hz2 n1 n2 n3
  have e1 : ((pre ++ (zz, k) :: suf).map (·.1)) = pre.map (·.1) ++ zz :: suf.map (·.1) := by rw [List.map_append, List.map_cons]
  have hhd : isHead (nx (pre.map (·.1) ++ b :: suf.map (·.1))) = false := by
    obtain ⟨w, t, e, h⟩ := r.fst
    cases pre with
    | nil =>
      have : k = ("w" : Str) := by cases e; rfl
      exact kh this
    | cons p pre =>
      have : p.1 = w := by cases e; rfl
      show isHead p.1 = false
      rw [this]; exact h
  have f2 : Few (hd5 z y z2 ++ (pre.map (·.1) ++ b :: suf.map (·.1))) := by
    have g1 := r.c1
    have g2 := r.c2
    have h1 := count_le (w := "(") (.inl rfl) fun q hq => (r.acc q hq).1
    have h2 := count_le (w := "{") (.inr rfl) fun q hq => (r.acc q hq).1
    obtain ⟨a1, a2, a3, a4⟩ := f
    rw [e1] at a1 a2 h1 h2
    refine ⟨fun w hw => ?_, ?_, ?_, ?_⟩
    · rcases List.mem_append.mp hw with h | h
      · exact a1 w (List.mem_append_left _ h)
      · rcases List.mem_append.mp h with h | h
        · exact a1 w (List.mem_append_right _ (List.mem_append_left _ h))
        · rcases List.mem_cons.mp h with rfl | h
          · exact ⟨kb.len, kb.ok⟩
          · exact a1 w (List.mem_append_right _ (List.mem_append_right _ (List.mem_cons_of_mem _ h)))
    · simp only [List.length_append, List.length_cons, List.length_map] at a2 ⊢
      exact a2
    · rw [List.count_append, List.count_append, List.count_cons]
      rw [List.count_append, List.count_cons] at h1
      have := (hd_cnt n1 n2 n3).1
      split <;> omega
    · rw [List.count_append, List.count_append, List.count_cons]
      rw [List.count_append, List.count_cons] at h2
      have := (hd_cnt n1 n2 n3).2
      split <;> omega
  have := (tells_rows n1 n2 n3 hhd f2).2 (b :: suf.map (·.1)) (toks_bad (rest := suf.map (·.1)) r.abs (fun q hq => (r.acc q (List.mem_append_left _ hq)).1) hB)
  have e : (hd5 z y z2 ++ (pre.map (·.1) ++ b :: suf.map (·.1))).length - (b :: suf.map (·.1)).length = 5 + pre.length := by
    simp only [List.length_append, List.length_cons, List.length_map]
    show 5 + _ - _ = _
    omega
  rw [e] at this
  exact this
/-- another word of the same kind -/
theorem Rest.swap {pre suf : List (Str × Str)} {zz k g : Str} (r : Rest (pre ++ (zz, k) :: suf)) (hv : isVar k = true) (hg : Acc k g = true) (wg : Wk g) : Rest (pre ++ (g, k) :: suf) := by
  have hk3 : k = ("n" : Str) ∨ k = ("t" : Str) ∨ k = ("c" : Str) := by
    unfold isVar at hv
    simpa only [Bool.or_eq_true, decide_eq_true_eq] using hv
  have fs : ∀ w : Str, (pre ++ (g, k) :: suf).countP (fP w) = (pre ++ (zz, k) :: suf).countP (fP w) := fun w => by
    rw [List.countP_append, List.countP_append, List.countP_cons, List.countP_cons]
    have : ∀ y : Str, fP w (y, k) = false := fun y => by show (!isVar k && _) = false; rw [hv]; rfl
    rw [this, this]
  refine ⟨?_, fun q hq => ?_, ?_, ?_, ?_, ?_⟩
  · obtain ⟨st1, h1, h2⟩ := absA_mid r.abs
    rw [absA_app h1]
    show (absS st1 (g, k)).bind _ = _
    rw [absS_swap (y := zz) hk3]
    exact h2
  · rcases List.mem_append.mp hq with h | h
    · exact r.acc q (List.mem_append_left _ h)
    · rcases List.mem_cons.mp h with rfl | h
      · exact ⟨hg, ⟨wg.len, wg.ok⟩, wg.wd, (r.acc (zz, k) (List.mem_append_right _ (List.mem_cons_self ..))).2.2.2⟩
      · exact r.acc q (List.mem_append_right _ (List.mem_cons_of_mem _ h))
  · have := r.len
    simp only [List.length_append, List.length_cons] at this ⊢
    exact this
  · rw [fs]; exact r.c1
  · rw [fs]; exact r.c2
  · obtain ⟨w, t, e, h⟩ := r.fst
    cases pre with
    | nil =>
      have : k = ("w" : Str) := by cases e; rfl
      rw [this] at hv
      exact absurd hv (by decide +kernel)
    | cons p pre =>
      have e2 : p = (w, ("w" : Str)) := by cases e; rfl
      exact ⟨w, pre ++ (g, k) :: suf, by rw [e2]; rfl, h⟩
/-! the rows drawn -/
theorem row_abs {nm nu ot : Str} : ∀ r ∈ rowsT nm nu ot, absA [.rows ""] r = some [.rows ""] := by
  intro r hr
  simp only [rowsT, List.mem_append, List.mem_cons, List.not_mem_nil, or_false] at hr
  rcases hr with ((((((h | h | h) | (h | h)) | h) | h) | (h | h))) | (h | h) <;> (subst h; rfl)
def TokOk (q : Str × Str) : Prop := Acc q.2 q.1 = true ∧ (q.1.length ≤ 600 ∧ okS q.1 = true) ∧ Wd q.1 ∧ q.2 ∈ kinds9
def cOk (q : Str × Str) : Bool := Acc q.2 q.1 && (wkB q.1 && decide (q.2 ∈ kinds9))
theorem TokOk.c {q : Str × Str} (h : cOk q = true) : TokOk q := by
  unfold cOk at h
  simp only [Bool.and_eq_true, decide_eq_true_eq] at h
  have w := wkB_ok h.2.1
  exact ⟨h.1, ⟨w.len, w.ok⟩, w.wd, h.2.2⟩
theorem nameL_len {z : Str} (h : isNameL z = true) : z.length ≤ 6 := by
  unfold isNameL at h
  simp only [Bool.and_eq_true, decide_eq_true_eq] at h
  exact h.1.2
theorem Wk.name {z : Str} (h : isNameL z = true) : Wk z := ⟨by have := nameL_len h; omega, name_okS h, Wd.name h⟩
theorem Num.wk {z : Str} (h : Num z) : Wk z := ⟨h.ln, h.ok, h.wd⟩
theorem tk_n {z : Str} (h : isNameL z = true) : TokOk (z, "n") := ⟨h, ⟨(Wk.name h).len, (Wk.name h).ok⟩, (Wk.name h).wd, show ("n" : Str) ∈ kinds9 from by decide +kernel⟩
theorem tk_nc {z : Str} (h : isNameL z = true) : TokOk (z, "c") := ⟨by show (isFig z || isNameL z) = true; rw [h, Bool.or_true], ⟨(Wk.name h).len, (Wk.name h).ok⟩, (Wk.name h).wd, show ("c" : Str) ∈ kinds9 from by decide +kernel⟩
theorem tk_t {z : Str} (h : Num z) : TokOk (z, "t") := ⟨h.fig, ⟨h.ln, h.ok⟩, h.wd, show ("t" : Str) ∈ kinds9 from by decide +kernel⟩
theorem tk_tc {z : Str} (h : Num z) : TokOk (z, "c") := ⟨by show (isFig z || isNameL z) = true; rw [h.fig]; rfl, ⟨h.ln, h.ok⟩, h.wd, show ("c" : Str) ∈ kinds9 from by decide +kernel⟩
theorem row_toks {nm nu ot : Str} (h1 : isNameL nm = true) (h2 : Num nu) (h3 : Num ot) : ∀ q ∈ (rowsT nm nu ot).flatten, TokOk q := by
  repeat' (first | (refine List.forall_mem_cons.mpr ⟨by first | exact tk_n h1 | exact tk_nc h1 | exact tk_t h2 | exact tk_tc h2 | exact tk_t h3 | exact tk_tc h3 | exact TokOk.c (by decide +kernel), ?_⟩) | exact List.forall_mem_nil _)
theorem row_first {nm nu ot : Str} : ∀ r ∈ rowsT nm nu ot, ∃ w t, r = (w, ("w" : Str)) :: t ∧ isHead w = false := by
  intro r hr
  simp only [rowsT, List.mem_append, List.mem_cons, List.not_mem_nil, or_false] at hr
  rcases hr with ((((((h | h | h) | (h | h)) | h) | h) | (h | h))) | (h | h) <;> (subst h; exact ⟨_, _, rfl, by decide +kernel⟩)
theorem abs_all : ∀ o : List (List (Str × Str)), (∀ r ∈ o, absA [.rows ""] r = some [.rows ""]) → absA [.rows ""] o.flatten = some [.rows ""]
  | [], _ => rfl
  | r :: o, h => by
    show absA [.rows ""] (r ++ o.flatten) = _
    rw [absA_app (h r (List.mem_cons_self ..))]
    exact abs_all o fun q hq => h q (List.mem_cons_of_mem _ hq)
theorem rest_of {nm nu ot : Str} (h1 : isNameL nm = true) (h2 : Num nu) (h3 : Num ot) {o : List (List (Str × Str))} (p : o.Perm (rowsT nm nu ot)) : Rest o.flatten := by
  have pf : o.flatten.Perm (rowsT nm nu ot).flatten := p.flatten
  refine ⟨abs_all o fun r hr => row_abs r (p.mem_iff.mp hr), fun q hq => row_toks h1 h2 h3 q (pf.mem_iff.mp hq), ?_, ?_, ?_, ?_⟩
  · rw [pf.length_eq]
    exact Nat.le_of_ble_eq_true rfl
  · rw [pf.countP_eq]
    exact Nat.le_of_eq (by rfl)
  · rw [pf.countP_eq]
    exact Nat.le_of_eq (by rfl)
  · cases o with
    | nil => exact absurd p.length_eq (by show ¬ (0 = 11); decide)
    | cons r o =>
      obtain ⟨w, t, rfl, h⟩ := row_first r (p.mem_iff.mp (List.mem_cons_self ..))
      exact ⟨w, t ++ o.flatten, rfl, h⟩
/-! whole texts -/
def hdT (z z2 : Str) : List (Str × Str) := [("cell", "h"), (z, "n"), ("5", "t"), ("lock", "h"), (z2, "n")]
abbrev five : Str := "5"
theorem five_fig : isFig five = true := by decide +kernel
theorem five_wk : Wk five := wkB_ok (by decide +kernel)
def putW (ws : List Str) (i : Nat) (z : Str) : List Str := ws.take i ++ [z] ++ ws.drop (i + 1)
theorem at_split {α : Type} : ∀ {R : List α} {i : Nat} {q : α}, R[i]? = some q → ∃ pre suf, R = pre ++ q :: suf ∧ pre.length = i
  | [], i, q, h => by cases h
  | x :: R, 0, q, h => by cases h; exact ⟨[], R, rfl, rfl⟩
  | x :: R, i + 1, q, h => by
    obtain ⟨pre, suf, e, l⟩ := at_split (R := R) (i := i) h
    exact ⟨x :: pre, suf, by rw [e]; rfl, by rw [List.length_cons, l]⟩
theorem putW_split {a b : List Str} {z y : Str} : putW (a ++ z :: b) a.length y = a ++ y :: b := by
  unfold putW
  rw [List.take_left, List.drop_append, show a.drop (a.length + 1) = [] from List.drop_eq_nil_of_le (by omega), show a.length + 1 - a.length = 1 by omega]
  simp
section
variable {R : List (Str × Str)} {z z2 : Str}
def wsT (z z2 : Str) (R : List (Str × Str)) : List Str := hd5 z five z2 ++ R.map (·.1)
theorem wsT_eq : wsT z z2 R = (hdT z z2 ++ R).map (·.1) := by rw [List.map_append]; rfl
theorem text_right (r : Rest R) (n1 : isNameL z = true) (n3 : isNameL z2 = true) : Tells (wsT z z2 R) (-1) := rest_right r (Wk.name n1) five_wk (Wk.name n3) n1 five_fig n3
theorem wsT_put {pre suf : List (Str × Str)} {q : Str × Str} {b : Str} : putW (wsT z z2 (pre ++ q :: suf)) (5 + pre.length) b = hd5 z five z2 ++ (pre.map (·.1) ++ b :: suf.map (·.1)) := by
  have e1 : wsT z z2 (pre ++ q :: suf) = (hd5 z five z2 ++ pre.map (·.1)) ++ q.1 :: suf.map (·.1) := by
    unfold wsT
    rw [List.map_append, List.map_cons, List.append_assoc]
  have e2 : 5 + pre.length = (hd5 z five z2 ++ pre.map (·.1)).length := by rw [List.length_append, List.length_map]; rfl
  rw [e1, e2, putW_split, List.append_assoc]
theorem text_bad (r : Rest R) (n1 : isNameL z = true) (n3 : isNameL z2 = true) {i : Nat} {zz k b : Str} (hi : (hdT z z2 ++ R)[i]? = some (zz, k)) (hk : k ≠ ("h" : Str)) (hb : b ∈ badW k) : Tells (putW (wsT z z2 R) i b) (i : Int) := by
  match i, hi with
  | 0, hi => cases hi; exact absurd rfl hk
  | 1, hi =>
    cases hi
    have hB := (bad_ok (k := "n") (by decide +kernel) hb).1
    exact tells_h1 (l := five :: "lock" :: z2 :: R.map (·.1)) (by simpa using (show (!isNameL b) = true from hB))
  | 2, hi =>
    cases hi
    have hB := (bad_ok (k := "t") (by decide +kernel) hb).1
    exact tells_h2 (l := "lock" :: z2 :: R.map (·.1)) n1 (by simpa using (show (!isFig b) = true from hB))
  | 3, hi => cases hi; exact absurd rfl hk
  | 4, hi =>
    cases hi
    have hB := (bad_ok (k := "n") (by decide +kernel) hb).1
    exact tells_h4 (l := R.map (·.1)) n1 five_fig (by simpa using (show (!isNameL b) = true from hB))
  | j + 5, hi =>
    have hi : R[j]? = some (zz, k) := hi
    obtain ⟨pre, suf, rfl, rfl⟩ := at_split hi
    rw [Nat.add_comm pre.length 5, wsT_put]
    exact rest_bad r hb (Wk.name n1) five_wk (Wk.name n3) n1 five_fig n3
theorem text_good (r : Rest R) (n1 : isNameL z = true) (n3 : isNameL z2 = true) {i : Nat} {zz k g : Str} (hi : (hdT z z2 ++ R)[i]? = some (zz, k)) (hv : isVar k = true) (hg : Acc k g = true) (wg : Wk g) : Tells (putW (wsT z z2 R) i g) (-1) := by
  match i, hi with
  | 0, hi => cases hi; exact absurd hv (by decide +kernel)
  | 1, hi => cases hi; exact rest_right r wg five_wk (Wk.name n3) hg five_fig n3
  | 2, hi => cases hi; exact rest_right r (Wk.name n1) wg (Wk.name n3) n1 hg n3
  | 3, hi => cases hi; exact absurd hv (by decide +kernel)
  | 4, hi => cases hi; exact rest_right r (Wk.name n1) five_wk wg n1 five_fig hg
  | j + 5, hi =>
    have hi : R[j]? = some (zz, k) := hi
    obtain ⟨pre, suf, rfl, rfl⟩ := at_split hi
    rw [Nat.add_comm pre.length 5, wsT_put]
    have := rest_right (r.swap hv hg wg) (Wk.name n1) five_wk (Wk.name n3) n1 five_fig n3
    rw [List.map_append, List.map_cons] at this
    exact this
end
end TP
namespace TP
open PySem PySem.Spec PyProof.Rows L2 HX HB HG HU HH HD HS HV HQ HK HN HJ TL HM HR
section
variable {P : Program} {w : World} {K : PySem.W.Frag} {mg : Str → Option Value} {base : Heap}
def goodN (nm : Str) : List Str := ["put", "cell", "lock", "sum", "nest", "z", "zzzzzz", nm]
def goodT (r : Int) : List Str := ["0", "-5", "10", times "9" 40, "-" ++ times "1" 40, intS r]
theorem goodN_ok {nm : Str} (h : isNameL nm = true) : ∀ z ∈ goodN nm, Acc "n" z = true ∧ Wk z := by
  have f : ∀ z : Str, isNameL z = true → Acc "n" z = true ∧ Wk z := fun z hz => ⟨hz, Wk.name hz⟩
  repeat' (first | (refine List.forall_mem_cons.mpr ⟨f _ (by first | exact h | decide +kernel), ?_⟩) | exact List.forall_mem_nil _)
theorem goodT_ok {r : Int} (h : Num (intS r)) : ∀ z ∈ goodT r, Acc "t" z = true ∧ Wk z := by
  have f : ∀ z : Str, isFig z = true → wkB z = true → Acc "t" z = true ∧ Wk z := fun z hz hw => ⟨hz, wkB_ok hw⟩
  refine List.forall_mem_cons.mpr ⟨f _ (by decide +kernel) (by decide +kernel), List.forall_mem_cons.mpr ⟨f _ (by decide +kernel) (by decide +kernel), List.forall_mem_cons.mpr ⟨f _ (by decide +kernel) (by decide +kernel), List.forall_mem_cons.mpr ⟨f _ (by decide +kernel) (by decide +kernel), List.forall_mem_cons.mpr ⟨f _ (by decide +kernel) (by decide +kernel), List.forall_mem_cons.mpr ⟨⟨h.fig, Num.wk h⟩, List.forall_mem_nil _⟩⟩⟩⟩⟩⟩
def spGood : Sp := fun vs H Q _ => ∃ (d g c : Addr) (k : Str), vs = [.ref d, .str k] ∧ Dr H d g c ∧ (k = "n" ∨ k = "t" ∨ k = "c") ∧ ∀ z H', Acc k z = true → Wk z → Dr H' d g c → Up d g H H' → Q (.str z) H'
theorem ok_lgood (T : Tp K w mg) : FnOk P w K mg base CX0 3 T.f_lgood T.fd_lgood ["_law_draw", "_law_kind"] spGood := by
  refine T.D_lgood.F.ok sc_lgood (fun vs H Q E h => ?_) (fun cdv A outer s H vs Q E hr h => ?_)
  · obtain ⟨d, g, c, k, rfl, _⟩ := h
    rfl
  · obtain ⟨d, g, c, k, rfl, D, hk, q⟩ := h
    have hu := hu_of hr
    refine ⟨_, (pss_cons (ps_set (i := 2) sc_lgood.nd rfl (.inl rfl) (pe_lst (pa_cons pe_str (pa_cons pe_str (pa_cons pe_str (pa_cons pe_str (pa_cons pe_str (pa_cons pe_str (pa_cons pe_str (pa_cons (pcall T.D_name (ok_name T) hr (by rfl) (pa_cons (pv 0) pa_nil)) pa_nil))))))))))
  (pss_cons (ps_set (i := 3) sc_lgood.nd rfl (.inl rfl) (pe_lst (pa_cons pe_str (pa_cons pe_str (pa_cons pe_str (pa_cons (pe_op op_times pe_str pe_int) (pa_cons (pe_op op_add_str pe_str (pe_op op_times pe_str pe_int)) (pa_cons (pe_callTy HJ.call_strIS (by rfl) T.str (by decide +kernel) (pa_cons (pcall T.D_next (ok_next T) (hr.mono (by decide)) (by rfl) (pa_cons (pv 0) (pa_cons pe_int pa_nil))) pa_nil)) pa_nil))))))))
  (pss_cons (ps_if (pt_cmpR op_eq (pv 1) pe_str (nomark _))
  (pss_one (ps_ret (pe_ix ix_list (pv 2) (pcall T.D_next (ok_next T) (hr.mono (by decide)) (by rfl) (pa_cons (pv 0) (pa_cons pe_int pa_nil))) (fun _ _ => rfl))))
  pss_nil)
  (pss_one (ps_ret (pe_ix ix_list (pe_op op_cat (pv 3) (pe_op op_rep (pv 2) (pe_callTy call_int1 (by rfl) T.int (by decide +kernel) (pa_cons (pe_cmpR op_eq (pv 1) pe_str (nomark _)) pa_nil)))) (pcall T.D_next (ok_next T) (hr.mono (by decide)) (by rfl) (pa_cons (pv 0) (pa_cons (pe_ix ix_list (pe_lst (pa_cons pe_int (pa_cons pe_int pa_nil))) (pe_callTy call_int1 (by rfl) T.int (by decide +kernel) (pa_cons (pe_cmpR op_eq (pv 1) pe_str (nomark _)) pa_nil)) (fun _ _ => rfl)) pa_nil))) (fun _ _ => rfl))))))), ?_⟩
    refine ⟨_, rfl, d, g, c, rfl, D, fun nm H1 hnm D1 u1 => ?_⟩
    refine ⟨Nat.le_of_ble_eq_true rfl, fun a1 n1 => nm1 ?_⟩
    have D2 := D1.same (same_upd (o := .lst ((goodN nm).map V.str)) n1)
    have u2 := u1.trans (Up.of (same_upd (o := .lst ((goodN nm).map V.str)) n1))
    have e1 : upd H1 a1 (.lst ((goodN nm).map V.str)) a1 = some (.lst ((goodN nm).map V.str)) := upd_same
    have hs : sizeLine = 16777216 := rfl
    show tSeq _ _ _ _ (upd H1 a1 (.lst ((goodN nm).map V.str)))
    generalize upd H1 a1 (.lst ((goodN nm).map V.str)) = H2 at D2 u2 e1 ⊢
    refine ⟨"9", 40, rfl, rfl, by decide, by decide, ?_⟩
    refine ⟨"1", 40, rfl, rfl, by decide, by decide, ?_⟩
    refine ⟨_, _, rfl, rfl, Nat.le_of_ble_eq_true (by kernel_rfl), ?_⟩
    refine ⟨_, rfl, d, g, c, _, rfl, D2, by decide, by decide, fun r H3 r0 r1 D3 u3 => ?_⟩
    have e1 := u3 _ _ e1 (D1.apart n1).1 (D1.apart n1).2.1
    have hr9 : r.natAbs ≤ 10 ^ 13 := by
      have : (10 : Nat) ^ 13 = 10000000000000 := by decide
      omega
    refine .inl ⟨r, rfl, ?_, ?_⟩
    · by_cases h0 : r.natAbs = 0
      · rw [h0]; decide
      · exact (Nat.log2_lt h0).mpr (Nat.lt_of_le_of_lt hr9 (by decide +kernel))
    have hnu : Num (intS r) := Num.int hr9
    refine ⟨Nat.le_of_ble_eq_true rfl, fun a2 n2 => nm1 ?_⟩
    have D4 := D3.same (same_upd (o := .lst ((goodT r).map V.str)) n2)
    have u4 := (u2.trans u3).trans (Up.of (same_upd (o := .lst ((goodT r).map V.str)) n2))
    have e2 : upd H3 a2 (.lst ((goodT r).map V.str)) a2 = some (.lst ((goodT r).map V.str)) := upd_same
    have e1 := (same_upd (o := .lst ((goodT r).map V.str)) n2) _ _ e1
    have m1 := D1.apart n1
    have m2 := D3.apart n2
    show tSeq _ _ _ _ (upd H3 a2 (.lst ((goodT r).map V.str)))
    generalize upd H3 a2 (.lst ((goodT r).map V.str)) = H4 at D4 u4 e1 e2 ⊢
    have gN : ∀ z ∈ goodN nm, Acc "n" z = true ∧ Wk z := goodN_ok hnm
    have gT : ∀ z ∈ goodT r, Acc "t" z = true ∧ Wk z := goodT_ok hnu
    have pick : ∀ (a : Addr) (zs : List Str) (H5 : Hp) (j : Int), Dr H5 d g c → Up d g H4 H5 → H5 a = some (.lst (zs.map V.str)) → 0 ≤ j → j < zs.length → (∀ z ∈ zs, Acc k z = true ∧ Wk z) → rIxL K (.ref a) (.int j) H5 Q := fun a zs H5 j D5 u5 e j0 j1 ok => by
      obtain ⟨n, rfl⟩ := Int.eq_ofNat_of_zero_le j0
      have hn : n < zs.length := by omega
      have hz := ok (zs[n]) (List.getElem_mem hn)
      refine ⟨a, _, _, .str zs[n], rfl, rfl, .of e, ?_, q _ _ hz.1 hz.2 D5 (u4.trans u5)⟩
      have h1 : ixN (zs.map V.str).length ((n : Nat) : Int) = some n := by
        unfold ixN
        rw [if_pos (Int.natCast_nonneg n), if_pos (by rw [List.length_map]; omega)]
        rfl
      show ((ixN _ _).bind fun j => (zs.map V.str)[j]?) = _
      rw [h1]
      show (zs.map V.str)[n]? = _
      rw [List.getElem?_map, List.getElem?_eq_getElem hn]
      rfl
    have big : ∀ {zs : List Str}, (∀ z ∈ zs, Acc "n" z = true ∧ Wk z) → ∀ z ∈ zs, Acc "c" z = true ∧ Wk z := fun h z hz => ⟨by show (isFig z || isNameL z) = true; rw [show isNameL z = true from (h z hz).1, Bool.or_true], (h z hz).2⟩
    have bigT : ∀ {zs : List Str}, (∀ z ∈ zs, Acc "t" z = true ∧ Wk z) → ∀ z ∈ zs, Acc "c" z = true ∧ Wk z := fun h z hz => ⟨by show (isFig z || isNameL z) = true; rw [show isFig z = true from (h z hz).1]; rfl, (h z hz).2⟩
    have dne : ∀ {a b : Str}, a ≠ b → decide (V.str a = V.str b) = false := fun h => decide_eq_false fun e => h (V.str.inj e)
    have deq : ∀ {a : Str}, decide (V.str a = V.str a) = true := decide_eq_true rfl
    refine nx_ ?_
    rcases hk with rfl | rfl | rfl
    · refine ⟨_, rfl, rfl, true, congrArg V.bl deq, ?_⟩
      refine ⟨_, rfl, _, rfl, d, g, c, _, rfl, D4, by decide, by decide, fun j H5 j0 j1 D5 u5 => ?_⟩
      exact pick a1 (goodN nm) H5 j D5 u5 (u5 _ _ e1 m1.1 m1.2.1) j0 j1 gN
    · refine ⟨_, rfl, rfl, false, congrArg V.bl (dne (by decide +kernel)), nx_ ?_⟩
      refine ⟨_, rfl, _, rfl, _, rfl, rfl, .inr ⟨false, by rw [dne (by decide +kernel)], ?_⟩⟩
      refine ⟨a1, 0, _, rfl, rfl, e1, by decide, by decide, by rw [show (0 : Int).toNat = 0 from rfl, Nat.mul_zero]; exact Nat.zero_le _, fun a5 n5 => ?_⟩
      refine ⟨a2, a5, (goodT r).map V.str, [], rfl, rfl, (same_upd n5) _ _ e2, upd_same, Nat.le_of_ble_eq_true rfl, fun a6 n6 => ?_⟩
      have s6 : Same H4 (upd (upd H4 a5 (.lst (List.replicate (Int.toNat 0) ((goodN nm).map V.str)).flatten)) a6 (.lst ((goodT r).map V.str ++ []))) := (same_upd n5).trans (same_upd n6)
      have e6 : upd (upd H4 a5 (.lst (List.replicate (Int.toNat 0) ((goodN nm).map V.str)).flatten)) a6 (.lst ((goodT r).map V.str ++ [])) a6 = some (.lst ((goodT r).map V.str)) := by rw [List.append_nil]; exact upd_same
      refine ⟨_, rfl, Nat.le_of_ble_eq_true rfl, fun a7 n7 => ⟨_, rfl, rfl, .inr ⟨true, by rw [deq], ?_⟩⟩⟩
      refine ⟨a7, _, 1, .int 6, rfl, rfl, .of upd_same, rfl, ?_⟩
      have s7 := s6.trans (same_upd (o := .lst [.int 14, .int 6]) n7)
      have D7 := D4.same s7
      have m6 := (D4.same ((same_upd n5))).apart n6
      refine ⟨d, g, c, _, rfl, D7, by decide, by decide, fun j H5 j0 j1 D5 u5 => ?_⟩
      exact pick a6 (goodT r) H5 j D5 ((Up.of s7).trans u5) (u5 _ _ ((same_upd n7) _ _ e6) m6.1 m6.2.1) j0 j1 gT
    · refine ⟨_, rfl, rfl, false, congrArg V.bl (dne (by decide +kernel)), nx_ ?_⟩
      refine ⟨_, rfl, _, rfl, _, rfl, rfl, .inr ⟨true, by rw [deq], ?_⟩⟩
      refine ⟨a1, 1, _, rfl, rfl, e1, by decide, by decide, Nat.le_of_ble_eq_true rfl, fun a5 n5 => ?_⟩
      refine ⟨a2, a5, (goodT r).map V.str, (goodN nm).map V.str, rfl, rfl, (same_upd n5) _ _ e2, by show upd _ _ (HO.lst ((goodN nm).map V.str ++ [])) _ = _; rw [List.append_nil]; exact upd_same, Nat.le_of_ble_eq_true rfl, fun a6 n6 => ?_⟩
      have s6 := (same_upd n5).trans (same_upd (o := .lst ((goodT r).map V.str ++ (goodN nm).map V.str)) n6)
      refine ⟨_, rfl, Nat.le_of_ble_eq_true rfl, fun a7 n7 => ⟨_, rfl, rfl, .inr ⟨false, by rw [dne (by decide +kernel)], ?_⟩⟩⟩
      refine ⟨a7, _, 0, .int 14, rfl, rfl, .of upd_same, rfl, ?_⟩
      have s7 := s6.trans (same_upd (o := .lst [.int 14, .int 6]) n7)
      have D7 := D4.same s7
      have m6 := (D4.same (same_upd n5)).apart n6
      refine ⟨d, g, c, _, rfl, D7, by decide, by decide, fun j H5 j0 j1 D5 u5 => ?_⟩
      refine pick a6 (goodT r ++ goodN nm) H5 j D5 ((Up.of s7).trans u5) (u5 _ _ ((same_upd n7) _ _ (by rw [List.map_append]; exact upd_same)) m6.1 m6.2.1) j0 j1 fun z hz => ?_
      rcases List.mem_append.mp hz with h | h
      · exact bigT gT z h
      · exact big gN z h
end
end TP
namespace TP
open PySem PySem.Spec PyProof.Rows L2 HX HB HG HU HH HD HS HV HQ HK HN HJ TL HM HR
/-! ### rows in the heap -/
abbrev Tok := Str × Str
theorem tok_tup : ∀ r : List Tok, tupAll (r.map tokD) = true
  | [] => rfl
  | q :: r => by
    show (tupD (tokD q) && tupAll (r.map tokD)) = true
    rw [tok_tup r]; rfl
theorem tok_at {K : PySem.W.Frag} {H : Hp} {u : V} {q : Tok} (h : Dp K H u (tokD q)) : ∃ t, u = .ref t ∧ SqT K H t [.str q.1, .str q.2] := by
  cases h with
  | tup h1 h2 =>
    cases h2 with
    | cons a b =>
      cases a
      cases b with
      | cons a b =>
        cases a
        cases b
        exact ⟨_, rfl, h1⟩
theorem tok_dp {K : PySem.W.Frag} {A : Addr → Prop} {H : Hp} : ∀ {us : List V} {r : List Tok}, DxAll K A H us (r.map tokD) → DpAll K H us (r.map tokD)
  | [], [], _ => .nil
  | u :: us, q :: r, h => by
    cases h with
    | cons a b =>
      refine .cons ?_ (tok_dp b)
      cases a with
      | tup h1 h2 =>
        cases h2 with
        | cons a b =>
          cases a
          cases b with
          | cons a b =>
            cases a
            cases b
            exact .tup h1 (.cons (.str _) (.cons (.str _) .nil))
def RwAt (K : PySem.W.Frag) (H : Hp) (q : Addr × List Tok) : Prop := ∃ us, H q.1 = some (.lst us) ∧ DpAll K H us (q.2.map tokD)
theorem rows_dx {K : PySem.W.Frag} {A : Addr → Prop} {H : Hp} : ∀ {vs : List V} {rows : List (List Tok)}, DxAll K A H vs (rows.map rowD) → ∃ BR : List (Addr × List Tok), vs = BR.map (fun q => .ref q.1) ∧ BR.map (·.2) = rows ∧ ∀ q ∈ BR, A q.1 ∧ RwAt K H q
  | _, [], h => by cases h; exact ⟨[], rfl, rfl, fun _ h => nomatch h⟩
  | _, r :: rows, h => by
    cases h with
    | cons a b =>
      obtain ⟨BR, e1, e2, e3⟩ := rows_dx b
      cases a with
      | lst h1 h2 h3 =>
        refine ⟨(_, r) :: BR, by rw [e1]; rfl, by rw [List.map_cons, e2], fun q hq => ?_⟩
        rcases List.mem_cons.mp hq with rfl | hq
        · exact ⟨h1, _, h2, tok_dp h3⟩
        · exact e3 q hq
theorem sqt_setL {K : PySem.W.Frag} {H : Hp} {a : Addr} {xs ys : List V} (e : H a = some (.lst xs)) {t : Addr} {zs : List V} (h : SqT K H t zs) : SqT K (upd H a (.lst ys)) t zs := by
  rcases h with h | h
  · refine .inl ?_
    rcases h with h | ⟨o, h⟩
    · exact .inl (by rw [upd_ne (fun e2 => by rw [e2, e] at h; cases h)]; exact h)
    · exact .inr ⟨o, by rw [upd_ne (fun e2 => by rw [e2, e] at h; cases h)]; exact h⟩
  · exact .inr h
theorem RwAt.set {K : PySem.W.Frag} {H : Hp} {a : Addr} {xs ys : List V} {q : Addr × List Tok} (h : RwAt K H q) (e : H a = some (.lst xs)) (n : q.1 ≠ a) : RwAt K (upd H a (.lst ys)) q := by
  obtain ⟨us, h1, h2⟩ := h
  exact ⟨us, by rw [upd_ne n]; exact h1, dpAll_keep (fun _ _ k => sqt_setL e k) (tok_tup _) h2⟩
theorem RwAt.up {K : PySem.W.Frag} {H H' : Hp} {d g c : Addr} {q : Addr × List Tok} (h : RwAt K H q) (u : Up d g H H') (D : Dr H d g c) (n : AW d g q.1) : RwAt K H' q := by
  obtain ⟨us, h1, h2⟩ := h
  exact ⟨us, u _ _ h1 n.1 n.2, dpAll_keep (fun _ _ k => u.sqt D k) (tok_tup _) h2⟩
theorem RwAt.same {K : PySem.W.Frag} {H H' : Hp} {q : Addr × List Tok} (h : RwAt K H q) (s : Same H H') : RwAt K H' q := by
  obtain ⟨us, h1, h2⟩ := h
  exact ⟨us, s _ _ h1, dpAll_keep (fun _ _ k => s.sqt k) (tok_tup _) h2⟩
theorem cut_from (xs : List V) (n : Nat) (h : n ≤ xs.length) : cutV xs (some (n : Int)) none = xs.drop n := by
  unfold cutV
  rw [HT.sIx_none, HT.sIx_nat, Nat.min_eq_left h]
  show (xs.drop n).take (xs.length - n) = _
  exact List.take_of_length_le (by rw [List.length_drop]; omega)
theorem wsT_wk {R : List Tok} {z z2 : Str} (r : Rest R) (n1 : isNameL z = true) (n3 : isNameL z2 = true) : ∀ y ∈ wsT z z2 R, Wk y := fun y hy => by
  rcases List.mem_append.mp hy with h | h
  · simp only [hd5, List.mem_cons, List.not_mem_nil, or_false] at h
    rcases h with rfl | rfl | rfl | rfl | rfl
    · exact wkB_ok (by decide +kernel)
    · exact Wk.name n1
    · exact five_wk
    · exact wkB_ok (by decide +kernel)
    · exact Wk.name n3
  · obtain ⟨q, hq, rfl⟩ := List.mem_map.mp h
    obtain ⟨_, ⟨h1, h2⟩, h3, _⟩ := r.acc q hq
    exact ⟨h1, h2, h3⟩
theorem putW_wk {ws : List Str} {i : Nat} {b : Str} (h : ∀ y ∈ ws, Wk y) (hb : Wk b) : ∀ y ∈ putW ws i b, Wk y := fun y hy => by
  unfold putW at hy
  rcases List.mem_append.mp hy with hy | hy
  · rcases List.mem_append.mp hy with hy | hy
    · exact h y (List.mem_of_mem_take hy)
    · rw [List.mem_singleton.mp hy]; exact hb
  · exact h y (List.mem_of_mem_drop hy)
theorem putW_len {ws : List Str} {i : Nat} {b : Str} (h : i < ws.length) : (putW ws i b).length = ws.length := by
  unfold putW
  rw [List.length_append, List.length_append, List.length_take, List.length_drop]
  show min i ws.length + 1 + _ = _
  omega
section
variable {P : Program} {w : World} {K : PySem.W.Frag} {mg : Str → Option Value} {base : Heap}
theorem atI_str {zs : List Str} {n : Nat} (hn : n < zs.length) : atI (zs.map V.str) (n : Int) = some (.str zs[n]) := by
  have h1 : ixN (zs.map V.str).length ((n : Nat) : Int) = some n := by
    unfold ixN
    rw [if_pos (Int.natCast_nonneg n), if_pos (by rw [List.length_map]; omega)]
    rfl
  show ((ixN _ _).bind fun j => (zs.map V.str)[j]?) = _
  rw [h1]
  show (zs.map V.str)[n]? = _
  rw [List.getElem?_map, List.getElem?_eq_getElem hn]
  rfl
theorem sql_up {H H' : Hp} {d g c Lb : Addr} {zs : List Str} (D : Dr H d g c) (h : SqL K H Lb (zs.map V.str)) (ne : zs ≠ []) (u : Up d g H H') : SqL K H' Lb (zs.map V.str) := by
  rcases h with h | h
  · obtain ⟨gs, cs, r, t, h1, h2, _⟩ := D.ex
    have nd : Lb ≠ d := fun e => by
      rw [e] at h
      rcases h with h | ⟨o, h⟩ <;> (rw [h1] at h; cases h)
    have ng : Lb ≠ g := fun e => by
      rw [e] at h
      rcases h with h | ⟨o, h⟩
      · rw [h2] at h
        have h := Option.some.inj h
        injection h with h
        cases zs with
        | nil => exact ne rfl
        | cons z zs =>
          cases gs with
          | nil => cases h
          | cons x gs => injection h with h _; cases h
      · rw [h2] at h; cases h
    rcases h with h | ⟨o, h⟩
    · exact .inl (.inl (u _ _ h nd ng))
    · exact .inl (.inr ⟨o, u _ _ h nd ng⟩)
  · exact .inr h
theorem put_run {te : TE} {σ : L2.St} {H : Hp} {d g c W : Addr} {ws : List Str} {i : Nat} {M : Str → Prop} {Q : VK} (h6 : σ[6]? = some (some (.ref W))) (h7 : σ[7]? = some (some (.int (i : Nat))))
    (mid : ∀ H1 Q', Same H H1 → (∀ b H2, M b → Dr H2 d g c → Up d g H1 H2 → Q' (.str b) H2) → te σ H1 Q') (hW : H W = some (.lst (ws.map V.str))) (mW : AW d g W) (D : Dr H d g c) (hi : i < ws.length) (l : ws.length ≤ 1000)
    (q : ∀ b p H', M b → H' p = some (.lst ((putW ws i b).map V.str)) → Dr H' d g c → Up d g H H' → Q (.ref p) H') :
    tOp rCat (tOp rCat (tSl (rSlL K) (tVar 6) tNoPart (tPart (tVar 7))) (tLst (tCons te tNil))) (tSl (rSlL K) (tVar 6) (tPart (tOp (rI0 fun i j => V.int (i + j)) (tVar 7) (tC (V.int 1)))) tNoPart) σ H Q := by
  refine ⟨_, h6, _, h7, _, rfl, W, _, rfl, sl hW, fun p1 n1 => ?_⟩
  have s1 := same_upd (o := .lst (cutV (ws.map V.str) none (some (i : Int)))) n1
  have a1 := D.apart n1
  refine mid _ _ s1 fun b H2 hb D2 u2 => ?_
  refine ⟨(by show 1 ≤ sizeLine; decide), fun p2 n2 => ?_⟩
  have s2 := same_upd (o := .lst [.str b]) n2
  have e1 := s2 _ _ (u2 _ _ (upd_same (a := p1) (o := .lst (cutV (ws.map V.str) none (some (i : Int)))) (H := H)) a1.1 a1.2.1)
  refine ⟨p1, p2, _, _, rfl, rfl, e1, upd_same, ?_, fun p3 n3 => ?_⟩
  · have := cutV_length (ws.map V.str) none (some (i : Int))
    rw [List.length_map] at this
    show _ + 1 ≤ _
    exact small1000 (by omega)
  have s3 := same_upd (o := .lst (cutV (ws.map V.str) none (some (i : Int)) ++ [.str b])) n3
  have hW3 := s3 _ _ (s2 _ _ (u2 _ _ (s1 _ _ hW) mW.1 mW.2))
  refine ⟨_, h6, _, h7, _, _, rfl, rfl, _, rfl, W, _, rfl, sl hW3, fun p4 n4 => ?_⟩
  have s4 := same_upd (o := .lst (cutV (ws.map V.str) (some ((i : Int) + 1)) none)) n4
  have c1 : cutV (ws.map V.str) none (some (i : Int)) = (ws.take i).map V.str := by rw [cut_to, List.map_take]
  have c2 : cutV (ws.map V.str) (some ((i : Int) + 1)) none = (ws.drop (i + 1)).map V.str := by
    rw [show (i : Int) + 1 = ((i + 1 : Nat) : Int) by omega, cut_from _ _ (by rw [List.length_map]; omega), List.map_drop]
  refine ⟨p3, p4, _, _, rfl, rfl, s4 _ _ upd_same, upd_same, ?_, fun p5 n5 => ?_⟩
  · rw [c1, c2, List.length_append, List.length_map, List.length_map, List.length_take, List.length_drop]
    show _ + 1 + _ ≤ _
    exact Nat.le_of_lt (small1000 (by omega))
  have s5 := same_upd (o := .lst (cutV (ws.map V.str) none (some (i : Int)) ++ [.str b] ++ cutV (ws.map V.str) (some ((i : Int) + 1)) none)) n5
  have s25 := ((s2.trans s3).trans s4).trans s5
  refine q b p5 _ hb ?_ (D2.same s25) (((Up.of s1).trans u2).trans (Up.of s25))
  rw [upd_same, c1, c2]
  unfold putW
  rw [List.map_append, List.map_append]
  rfl
theorem inV_var (k : Str) : inV (.str k) [.str "n", .str "t", .str "c"] = isVar k := by
  unfold isVar
  show (_ || (_ || (_ || false))) = _
  rw [Bool.or_false]
  have : ∀ a b : Str, eqV (V.str a) (V.str b) = decide (b = a) := fun a b => by
    show (a == b) = _
    by_cases h : b = a
    · rw [h, decide_eq_true rfl, beq_self_eq_true]
    · rw [decide_eq_false h, beq_eq_false_iff_ne.mpr fun e => h e.symm]
  show (eqV _ _ || (eqV _ _ || eqV _ _)) = _
  rw [this, this, this]
theorem badW_len {k : Str} (h : k ∈ kinds9) : badW k ≠ [] ∧ (badW k).length ≤ 12 := by
  have : ∀ k ∈ kinds9, badW k ≠ [] ∧ (badW k).length ≤ 12 := by decide +kernel
  exact this k h
def spLaw (K : PySem.W.Frag) : Sp := fun vs H Q _ => ∃ (a : Addr) (ns : List Int), vs = [.ref a] ∧ SqL K H a (ns.map V.int) ∧ ns.length ≤ 63 ∧ ∀ H', Q (.bl true) H'
theorem ok_law {f : Addr} {fd : FuncData} (F : Fun K "law" "law" s_law f fd) (T : Tp K w mg) : FnG P w K mg base CX0 60 f fd ["_law_script"] (spLaw K) := by
  refine okGn F sc_law (fun vs H Q E h => ?_) (fun cdv A outer s H vs Q E sh hr h => ?_)
  · obtain ⟨a, ns, rfl, _⟩ := h
    rfl
  · obtain ⟨a, ns, rfl, hS, hl, fin⟩ := h
    have hu := hu_of hr
    refine ⟨_, (pss_cons (ps_set (i := 1) sc_law.nd rfl (.inl rfl) (pcall T.D_begun (ok_begun T) (hr.mono (by omega)) (by rfl) (pa_cons (pv 0) pa_nil)))
  (pss_cons (ps_par (i := 2) (j := 3) rfl sc_law.nd rfl rfl (by decide) rfl rfl (pa_cons (pcall T.D_lrows (ok_lrows T) (hr.mono (by omega)) (by rfl) (pa_cons (pv 1) pa_nil)) (pa_cons (pe_lst pa_nil) pa_nil)) (by rfl))
  (pss_cons (ps_for PassesOwn.never rfl (pi_list (pv 2)) (pg_name (i := 4) sc_law.nd rfl (.inl rfl))
  (pss_one (ps_expr (pe_bm PySem.F.plainAttrs_list PySem.F.slot_list_insert PySem.F.type_list_insert mt_insert (pv 3) (pa_cons (pcall T.D_next (ok_next T) (hr.mono (by omega)) (by rfl) (pa_cons (pv 1) (pa_cons (pe_op op_add (pe_callB call_len_seq (by rfl) T.len PySem.boot_len (pa_cons (pv 3) pa_nil)) pe_int) pa_nil))) (pa_cons (pv 4) pa_nil))))))
  (pss_cons (ps_set (i := 5) sc_law.nd rfl (.inl rfl) (pe_lst (pa_cons (pe_tup (pa_cons pe_str (pa_cons pe_str pa_nil))) (pa_cons (pe_tup (pa_cons (pcall T.D_name (ok_name T) (hr.mono (by omega)) (by rfl) (pa_cons (pv 1) pa_nil)) (pa_cons pe_str pa_nil))) (pa_cons (pe_tup (pa_cons pe_str (pa_cons pe_str pa_nil))) (pa_cons (pe_tup (pa_cons pe_str (pa_cons pe_str pa_nil))) (pa_cons (pe_tup (pa_cons (pcall T.D_name (ok_name T) (hr.mono (by omega)) (by rfl) (pa_cons (pv 1) pa_nil)) (pa_cons pe_str pa_nil))) pa_nil)))))))
  (pss_cons (ps_for PassesOwn.never rfl (pi_list (pv 3)) (pg_name (i := 4) sc_law.nd rfl (.inl rfl))
  (pss_one (ps_set (i := 5) sc_law.nd rfl (.inl rfl) (pe_op op_cat (pv 5) (pv 4)))))
  (pss_cons (ps_setLc (i := 6) (own := [("_law_word", 8), ("_law_kind", 9)]) (g := gTup K 2 (gCons (gName 8) (gCons (gName 9) gNil))) (by rfl) sc_law.nd rfl rfl (sw_true rfl rfl rfl (by decide +kernel)) (pi_list (pv 5)) (blkOk_by (own := [("_law_word", 8), ("_law_kind", 9)]) (N := ["_law_script", "_law_draw", "_law_rows_here", "_law_order", "_law_row", "_law_told_here", "_law_words", "_law_at", "_law_word", "_law_kind", "_law_some", "_law_bad_here", "_law_other"]) (sc := defScope s_law) (by decide +kernel)) (fun _ _ _ _ _ => (pg_tup rfl (pgs_cons (pg_name (i := 8) sc_law.nd rfl (.inl rfl)) (pgs_cons (pg_name (i := 9) sc_law.nd rfl (.inl rfl)) pgs_nil)))) (fun _ _ _ _ _ => pts_nil) (fun _ _ _ _ _ => (pv 8)))
  (pss_cons (ps_if (pt_cmpR op_ne (pcall T.D_ltold (ok_ltold T) (hr.mono (by omega)) (by rfl) (pa_cons (pv 6) pa_nil)) (pe_un un_neg pe_int) (nomark _))
  (pss_one (ps_ret pe_bl))
  pss_nil)
  (pss_cons (ps_for PassesOwn.never rfl (pi_enum (by rfl) T.enumerate (pa_cons (pv 5) pa_nil)) (pg_tup rfl (pgs_cons (pg_name (i := 7) sc_law.nd rfl (.inl rfl)) (pgs_cons (pg_tup rfl (pgs_cons (pg_name (i := 8) sc_law.nd rfl (.inl rfl)) (pgs_cons (pg_name (i := 9) sc_law.nd rfl (.inl rfl)) pgs_nil))) pgs_nil)))
  (pss_cons (ps_if (pt_cmpR op_ne (pv 9) pe_str (nomark _))
  (pss_cons (ps_set (i := 10) sc_law.nd rfl (.inl rfl) (pcall T.D_lbad (ok_lbad T) (hr.mono (by omega)) (by rfl) (pa_cons (pv 9) pa_nil)))
  (pss_cons (ps_set (i := 11) sc_law.nd rfl (.inl rfl) (pe_ix ix_list (pv 10) (pcall T.D_next (ok_next T) (hr.mono (by omega)) (by rfl) (pa_cons (pv 1) (pa_cons (pe_callB call_len_seq (by rfl) T.len PySem.boot_len (pa_cons (pv 10) pa_nil)) pa_nil))) (fun _ _ => rfl)))
  (pss_one (ps_if (pt_cmpR op_ne (pcall T.D_ltold (ok_ltold T) (hr.mono (by omega)) (by rfl) (pa_cons (pe_op op_cat (pe_op op_cat (pe_slice sl_list (pv 6) po_none (po_some (pv 7))) (pe_lst (pa_cons (pv 11) pa_nil))) (pe_slice sl_list (pv 6) (po_some (pe_op op_add (pv 7) pe_int)) po_none)) pa_nil)) (pv 7) (nomark _))
  (pss_one (ps_ret pe_bl))
  pss_nil))))
  pss_nil)
  (pss_one (ps_if (pt_cmpR op_in_seq (pv 9) (pe_lst (pa_cons pe_str (pa_cons pe_str (pa_cons pe_str pa_nil)))) (by rfl))
  (pss_cons (ps_set (i := 12) sc_law.nd rfl (.inl rfl) (pe_op op_cat (pe_op op_cat (pe_slice sl_list (pv 6) po_none (po_some (pv 7))) (pe_lst (pa_cons (pcall T.D_lgood (ok_lgood T) (hr.mono (by omega)) (by rfl) (pa_cons (pv 1) (pa_cons (pv 9) pa_nil))) pa_nil))) (pe_slice sl_list (pv 6) (po_some (pe_op op_add (pv 7) pe_int)) po_none)))
  (pss_one (ps_if (pt_cmpR op_ne (pcall T.D_ltold (ok_ltold T) (hr.mono (by omega)) (by rfl) (pa_cons (pv 12) pa_nil)) (pe_un un_neg pe_int) (nomark _))
  (pss_one (ps_ret pe_bl))
  pss_nil)))
  pss_nil))))
  (pss_one (ps_ret (pe_and (pe_cmpR op_eq (pcall T.D_ltold (ok_ltold T) (hr.mono (by omega)) (by rfl) (pa_cons (pe_lst pa_nil) pa_nil)) (pe_un un_neg pe_int) (nomark _)) (pe_one (pe_cmpR op_eq (pcall T.D_ltold (ok_ltold T) (hr.mono (by omega)) (by rfl) (pa_cons (pe_lst (pa_cons pe_str pa_nil)) pa_nil)) pe_int (nomark _)))))))))))))), ?_⟩
    refine ⟨_, rfl, a, ns, rfl, hS, hl, fun d g c H1 s1 nd ng D1 => ?_⟩
    refine ⟨_, rfl, d, g, c, rfl, D1, fun nm nu ot v H2 hnm hnu hot D2 u2 hv => ?_⟩
    cases hv with
    | lst la lb lc =>
    rename_i L vs
    obtain ⟨BR, rfl, eBR, hBR⟩ := rows_dx lc
    have lBR : BR.length = 11 := by rw [← List.length_map (f := (·.2)), eBR]; rfl
    refine ⟨Nat.zero_le _, fun ao nao => ?_⟩
    have s3 := same_upd (o := .lst []) nao
    have hao : (upd H2 ao (.lst [])) ao = some (.lst (([] : List (Addr × List Tok)).map fun q => V.ref q.1)) := upd_same
    have aao := D2.apart nao
    have nBR : ∀ q ∈ BR, q.1 ≠ ao := fun q hq e => by
      obtain ⟨_, us, h1, _⟩ := hBR q hq
      rw [e, nao] at h1; cases h1
    have D3 := D2.same s3
    have hBR3 : ∀ q ∈ BR, AW d g q.1 ∧ RwAt K (upd H2 ao (.lst [])) q := fun q hq => ⟨(hBR q hq).1, (hBR q hq).2.same s3⟩
    have hL3 := s3 _ _ lb
    refine ⟨_, _, rfl, nx_ ?_⟩
    show tSeq (tFor _ _ _) _ _ _ (upd H2 ao (.lst []))
    generalize upd H2 ao (.lst []) = H3 at D3 hBR3 hL3 hao s3 ⊢
    have hin : 11 < sizeLine := by decide
    -- the rows, put in at drawn places
    refine ⟨_, rfl, L, rfl, ⟨_, sl hL3⟩, ?_⟩
    refine for_it (walk_list (xs := BR.map fun q => V.ref q.1)) (fun i σ H4 => ∃ (o : List (Addr × List Tok)) (y4 : Option V), σ = [some (.ref a), some (.ref d), some (.ref L), some (.ref ao), y4, none, none, none, none, none, none, none, none] ∧ Dr H4 d g c ∧ H4 ao = some (.lst (o.map fun q => V.ref q.1)) ∧ o.Perm (BR.take i) ∧ (∀ q ∈ BR, RwAt K H4 q) ∧ H4 L = some (.lst (BR.map fun q => V.ref q.1))) ?_ (fun i σ H7 _ g => by
        obtain ⟨o, y4, _, _, _, _, _, h⟩ := g
        exact sl h) ?_ ?_
    · exact ⟨[], none, rfl, D3, hao, List.Perm.refl _, fun q hq => (hBR3 q hq).2, hL3⟩
    · rintro i x σ H5 H6 hi ⟨o, y4, rfl, D5, hao5, pm, hR5, hL5⟩ ⟨rfl, gx⟩
      rw [List.length_map] at hi
      have gx' : some (V.ref BR[i].1) = some x := by rw [← gx, List.getElem?_map, List.getElem?_eq_getElem hi]; rfl
      cases gx'
      have lo : o.length = i := by rw [pm.length_eq, List.length_take]; omega
      refine nm1 ?_
      refine ⟨_, rfl, .inl ⟨rfl, _, sl hao5⟩, ?_⟩
      refine ⟨_, rfl, _, rfl, ⟨ao, _, rfl, .inl (sl hao5), _, _, rfl, rfl, ?_⟩⟩
      have l1 : ((o.map fun q => V.ref q.1).length : Int) + 1 = (i : Int) + 1 := by rw [List.length_map, lo]
      refine ⟨d, g, c, _, rfl, D5, by omega, by (have : (10 : Int) ^ 13 = 10000000000000 := by decide); omega, fun j H6 j0 j1 D6 u6 => ?_⟩
      have hao6 := u6 _ _ hao5 aao.1 aao.2.1
      obtain ⟨n, rfl⟩ := Int.eq_ofNat_of_zero_le j0
      refine ⟨_, rfl, ao, _, _, _, rfl, rfl, hao6, ?_, by omega, by (have : (2 : Int) ^ 63 = 9223372036854775808 := by decide); omega, ?_⟩
      · rw [List.length_map]; omega
      have e9 : (o.map fun q => V.ref q.1).take n ++ [V.ref BR[i].1] ++ (o.map fun q => V.ref q.1).drop n = (o.take n ++ [BR[i]] ++ o.drop n).map fun q => V.ref q.1 := by
        rw [List.map_append, List.map_append, List.map_take, List.map_drop]
        rfl
      refine ⟨o.take n ++ [BR[i]] ++ o.drop n, _, rfl, D6.set aao.1 aao.2.1 aao.2.2, ?_, ?_, fun q hq => ?_, ?_⟩
      · rw [← e9]; exact upd_same
      · have h1 : (o.take n ++ [BR[i]] ++ o.drop n).Perm (o ++ [BR[i]]) := by
          rw [List.append_assoc]
          refine (List.Perm.append_left _ List.perm_append_comm).trans ?_
          rw [← List.append_assoc, List.take_append_drop]
        refine h1.trans ?_
        rw [List.take_add_one, List.getElem?_eq_getElem hi]
        exact pm.append_right _
      · exact ((hR5 q hq).up u6 D5 (hBR q hq).1).set hao6 (nBR q hq)
      · rw [upd_ne (fun e => by rw [e, nao] at lb; cases lb)]
        exact u6 _ _ hL5 la.1 la.2
    rw [List.length_map, lBR]
    rintro σ H4 ⟨o, y4, rfl, D4, hao4, pm, hR4, _⟩
    rw [← lBR, List.take_length] at pm
    have pm2 : (o.map (·.2)).Perm (rowsT nm nu ot) := by rw [← eBR]; exact pm.map _
    have Ro : Rest (o.map (·.2)).flatten := rest_of hnm hnu hot pm2
    have lo : o.length = 11 := by rw [pm.length_eq]; exact lBR
    have hRo : ∀ q ∈ o, RwAt K H4 q := fun q hq => hR4 q (pm.mem_iff.mp hq)
    have L5 : ∀ {xs : List V}, xs.length ≤ 10 → xs.length ≤ sizeLine := fun h => Nat.le_trans h (by decide)
    refine ⟨L5 (by show 2 ≤ 10; decide), fun t1 n1 => ?_⟩
    have q1 : SqT K (upd H4 t1 (.tup [.str "cell", .str "h"])) t1 [.str "cell", .str "h"] := .inl (.inl upd_same)
    have s5 := same_upd (o := .tup [.str "cell", .str "h"]) n1
    have D5 := D4.same s5
    have hR5 : ∀ q ∈ o, RwAt K (upd H4 t1 (.tup [.str "cell", .str "h"])) q := fun q hq => (hRo q hq).same s5
    have aoA : AW d g ao := ⟨aao.1, aao.2.1⟩
    have hao5 := s5 _ _ hao4
    refine ⟨_, rfl, d, g, c, rfl, D5, fun z H6 hz D6 u6 => ?_⟩
    have q1 := u6.sqt D5 q1
    have hAW : ∀ q ∈ o, AW d g q.1 := fun q hq => (hBR q (pm.mem_iff.mp hq)).1
    have hR6 : ∀ q ∈ o, RwAt K H6 q := fun q hq => (hR5 q hq).up u6 D5 (hAW q hq)
    have hao6 := u6 _ _ hao5 aao.1 aao.2.1
    refine ⟨L5 (by show 2 ≤ 10; decide), fun t2 n2 => ?_⟩
    have q2 : SqT K (upd H6 t2 (.tup [.str z, .str "n"])) t2 [.str z, .str "n"] := .inl (.inl upd_same)
    have s7 := same_upd (o := .tup [.str z, .str "n"]) n2
    refine ⟨L5 (by show 2 ≤ 10; decide), fun t3 n3 => ?_⟩
    have q3 : SqT K (upd (upd H6 t2 (.tup [.str z, .str "n"])) t3 (.tup [.str "5", .str "t"])) t3 [.str "5", .str "t"] := .inl (.inl upd_same)
    have s8 := same_upd (o := .tup [.str "5", .str "t"]) n3
    refine ⟨L5 (by show 2 ≤ 10; decide), fun t4 n4 => ?_⟩
    have q4 : SqT K (upd (upd (upd H6 t2 (.tup [.str z, .str "n"])) t3 (.tup [.str "5", .str "t"])) t4 (.tup [.str "lock", .str "h"])) t4 [.str "lock", .str "h"] := .inl (.inl upd_same)
    have s9 := same_upd (o := .tup [.str "lock", .str "h"]) n4
    have s69 := (s7.trans s8).trans s9
    have q1 := s69.sqt q1
    have q2 := (s8.trans s9).sqt q2
    have q3 := s9.sqt q3
    have D9 := D6.same s69
    have hR9 := fun q hq => (hR6 q hq).same s69
    have hao9 := s69 _ _ hao6
    refine ⟨_, rfl, d, g, c, rfl, D9, fun z2 H10 hz2 D10 u10 => ?_⟩
    have q1 := u10.sqt D9 q1
    have q2 := u10.sqt D9 q2
    have q3 := u10.sqt D9 q3
    have q4 := u10.sqt D9 q4
    have hR10 : ∀ q ∈ o, RwAt K H10 q := fun q hq => (hR9 q hq).up u10 D9 (hAW q hq)
    have hao10 := u10 _ _ hao9 aao.1 aao.2.1
    refine ⟨L5 (by show 2 ≤ 10; decide), fun t5 n5 => ?_⟩
    have q5 : SqT K (upd H10 t5 (.tup [.str z2, .str "n"])) t5 [.str z2, .str "n"] := .inl (.inl upd_same)
    have s11 := same_upd (o := .tup [.str z2, .str "n"]) n5
    refine ⟨L5 (by show 5 ≤ 10; decide), fun p0 np0 => nm1 (nx_ ?_)⟩
    have ap0 : AW d g p0 := ⟨((D10.same s11).apart np0).1, ((D10.same s11).apart np0).2.1⟩
    have s12 := same_upd (o := .lst [.ref t1, .ref t2, .ref t3, .ref t4, .ref t5]) np0
    have s1012 := s11.trans s12
    have e0 : (upd (upd H10 t5 (.tup [.str z2, .str "n"])) p0 (.lst [.ref t1, .ref t2, .ref t3, .ref t4, .ref t5])) p0 = some (.lst [.ref t1, .ref t2, .ref t3, .ref t4, .ref t5]) := upd_same
    have q1 := s1012.sqt q1
    have q2 := s1012.sqt q2
    have q3 := s1012.sqt q3
    have q4 := s1012.sqt q4
    have q5 := s12.sqt q5
    have D12 := D10.same s1012
    have hR12 : ∀ q ∈ o, RwAt K _ q := fun q hq => (hR10 q hq).same s1012
    have hao12 := s1012 _ _ hao10
    show tSeq (tFor _ _ _) _ _ _ (upd (upd H10 t5 (.tup [.str z2, .str "n"])) p0 (.lst [.ref t1, .ref t2, .ref t3, .ref t4, .ref t5]))
    generalize upd (upd H10 t5 (.tup [.str z2, .str "n"])) p0 (.lst [.ref t1, .ref t2, .ref t3, .ref t4, .ref t5]) = H12 at q1 q2 q3 q4 q5 e0 D12 hR12 hao12 ⊢
    have h5 : DpAll K H12 [.ref t1, .ref t2, .ref t3, .ref t4, .ref t5] ((hdT z z2).map tokD) :=
      .cons (.tup q1 (.cons (.str _) (.cons (.str _) .nil))) (.cons (.tup q2 (.cons (.str _) (.cons (.str _) .nil))) (.cons (.tup q3 (.cons (.str _) (.cons (.str _) .nil))) (.cons (.tup q4 (.cons (.str _) (.cons (.str _) .nil))) (.cons (.tup q5 (.cons (.str _) (.cons (.str _) .nil))) .nil))))
    have cap : ∀ k, ((o.take k).map (·.2)).flatten.length ≤ 900 := fun k => by
      have h1 := Ro.len
      have h2 : (o.map (·.2)).flatten = ((o.take k).map (·.2)).flatten ++ ((o.drop k).map (·.2)).flatten := by
        rw [← List.flatten_append, ← List.map_append, List.take_append_drop]
      rw [h2, List.length_append] at h1
      omega
    refine ⟨_, rfl, ao, rfl, ⟨_, sl hao12⟩, ?_⟩
    refine for_it (walk_list (xs := o.map fun q => V.ref q.1)) (fun i σ H => ∃ (w5 : Addr) (us : List V) (y4 : Option V), σ = [some (.ref a), some (.ref d), some (.ref L), some (.ref ao), y4, some (.ref w5), none, none, none, none, none, none, none] ∧ Same H12 H ∧ AW d g w5 ∧ H w5 = some (.lst us) ∧ DpAll K H us ((hdT z z2 ++ ((o.take i).map (·.2)).flatten).map tokD)) ?_ (fun i σ H7 _ g => by
        obtain ⟨w5, us, y4, _, sm, _⟩ := g
        exact sl (sm _ _ hao12)) ?_ ?_
    · exact ⟨p0, _, _, rfl, Same.refl _, ap0, e0, h5⟩
    · rintro i x σ H13 H14 hi ⟨w5, us, y4, rfl, sm, aw5, hw5, hus⟩ ⟨rfl, gx⟩
      rw [List.length_map] at hi
      have gx' : some (V.ref o[i].1) = some x := by rw [← gx, List.getElem?_map, List.getElem?_eq_getElem hi]; rfl
      cases gx'
      obtain ⟨rs, hb, hrs⟩ := (hR12 o[i] (List.getElem_mem hi)).same sm
      have lus := dpAll_len hus
      have lrs := dpAll_len hrs
      have tk : ((o.take (i + 1)).map (·.2)).flatten = ((o.take i).map (·.2)).flatten ++ o[i].2 := by
        rw [List.take_add_one, List.getElem?_eq_getElem hi, List.map_append, List.flatten_append]
        show _ ++ (o[i].2 ++ []) = _
        rw [List.append_nil]
      have c1 := cap (i + 1)
      rw [tk, List.length_append] at c1
      rw [List.length_map, List.length_append] at lus
      rw [List.length_map] at lrs
      have l0 : (hdT z z2).length = 5 := rfl
      refine nm1 ⟨_, rfl, _, rfl, w5, _, us, rs, rfl, rfl, hw5, hb, Nat.le_of_lt (small1000 (by omega)), fun p8 n8 => ?_⟩
      have s8 := same_upd (o := .lst (us ++ rs)) n8
      refine ⟨p8, _, _, rfl, sm.trans s8, ⟨((D12.same sm).apart n8).1, ((D12.same sm).apart n8).2.1⟩, upd_same, ?_⟩
      rw [tk, ← List.append_assoc, List.map_append]
      exact dpAll_keep (fun _ _ k => s8.sqt k) (by rw [← List.map_append]; exact tok_tup _) (dpAll_app hus hrs)
    rw [List.length_map, lo]
    rintro σ H13 ⟨w5, us, y4, rfl, s13, aw5, hw5, hus⟩
    rw [show o.take 11 = o by rw [← lo, List.take_length]] at hus
    have D13 := D12.same s13
    generalize hRR : (o.map (·.2)).flatten = R at Ro hus
    have lus := dpAll_len hus
    rw [List.length_map] at lus
    have lR : (hdT z z2 ++ R).length ≤ 905 := by
      have := Ro.len
      rw [List.length_append]
      show 5 + _ ≤ 905
      omega
    refine ⟨_, rfl, w5, rfl, ⟨_, sl hw5⟩, fun W nW => ?_⟩
    have tokAt : ∀ {H' : Hp}, DpAll K H' us ((hdT z z2 ++ R).map tokD) → ∀ j (hj : j < (hdT z z2 ++ R).length) (x : V), us[j]? = some x → ∃ t, x = .ref t ∧ SqT K H' t [.str (hdT z z2 ++ R)[j].1, .str (hdT z z2 ++ R)[j].2] := fun hd j hj x hx => by
      have hj2 : j < us.length := by omega
      rw [List.getElem?_eq_getElem hj2] at hx
      cases hx
      have := dpAll_at hd hj2 (by rw [List.length_map]; exact hj)
      rw [List.getElem_map] at this
      exact tok_at this
    refine lc_it (walk_list (xs := us)) (fun i H2 => Same H13 H2 ∧ H2 W = some (.lst (((hdT z z2 ++ R).take i).map fun q => V.str q.1))) ⟨same_upd nW, upd_same⟩ (fun i H2 _ h => sl (h.1 _ _ hw5)) ?_ ?_
    · rintro i x H14 H15 hi ⟨sm, hW⟩ ⟨rfl, gx⟩
      have hih : i < (hdT z z2 ++ R).length := by omega
      obtain ⟨t, rfl, ht⟩ := tokAt (dpAll_keep (fun _ _ k => sm.sqt k) (tok_tup _) hus) i hih x gx
      refine ⟨t, _, rfl, ht, rfl, _, _, rfl, _, _, rfl, rfl, rfl, ?_⟩
      refine ⟨_, rfl, _, hW, ?_, ?_, ?_⟩
      · rw [List.length_map, List.length_take]
        exact small1000 (by omega)
      · exact fun b o e => by rw [upd_ne (ne_of_none e nW)]; exact sm b o e
      · rw [upd_same, List.take_add_one, List.getElem?_eq_getElem hih, List.map_append]
        rfl
    rw [lus, List.take_length]
    rintro H14 ⟨s14, hW⟩
    have hW : H14 W = some (.lst ((wsT z z2 R).map V.str)) := by rw [hW, wsT_eq, List.map_map]; rfl
    have hwk := wsT_wk Ro hz hz2
    have lW : (wsT z z2 R).length = (hdT z z2 ++ R).length := by rw [wsT_eq, List.length_map]
    have ine : ∀ i : Int, (!decide (V.int i = V.int i)) = false := fun i => by rw [decide_eq_true rfl]; rfl
    refine nm1 (nx_ ?_)
    refine ⟨_, rfl, W, wsT z z2 R, -1, rfl, .inl (.inl hW), fun y hy => (hwk y hy).wd, fun y hy => ⟨(hwk y hy).len, (hwk y hy).ok⟩, by omega, text_right Ro hz hz2, fun H15 s15 => ?_⟩
    refine ⟨1, rfl, rfl, false, congrArg V.bl (ine _), nx_ ?_⟩
    have s1315 := s14.trans s15
    have D15 := D13.same s1315
    have hW15 := s15 _ _ hW
    have hw5' := s1315 _ _ hw5
    have hus15 := dpAll_keep (fun _ _ k => s1315.sqt k) (tok_tup _) hus
    have mW : AW d g W := ⟨(D13.apart nW).1, (D13.apart nW).2.1⟩
    generalize hTT : hdT z z2 ++ R = TT at lus lR lW hus hus15 tokAt
    refine ⟨_, rfl, w5, us, rfl, sl hw5', ?_⟩
    refine for_it walk_enum (fun i σ H => ∃ y7 y8 y9 y10 y11 y12 : Option V, σ = [some (.ref a), some (.ref d), some (.ref L), some (.ref ao), y4, some (.ref w5), some (.ref W), y7, y8, y9, y10, y11, y12] ∧ Dr H d g c ∧ Up d g H15 H) ?_ (fun i σ H7 _ g => by
        obtain ⟨y7, y8, y9, y10, y11, y12, _, _, u⟩ := g
        exact sl (u _ _ hw5' aw5.1 aw5.2)) ?_ ?_
    · exact ⟨_, _, _, _, _, _, rfl, D15, Up.refl _⟩
    · rintro i x σ H16 H17 hi ⟨y7, y8, y9, y10, y11, y12, rfl, D16, u16⟩ ⟨tp, vi, vx, rfl, ntp, rfl, ei, ex⟩
      cases ei
      have hih : i < TT.length := by omega
      have s17 := same_upd (o := .tup [.int (i : Nat), vx]) ntp
      obtain ⟨t, rfl, ht⟩ := tokAt (dpAll_keep (fun _ _ k => s17.sqt (u16.sqt D15 k)) (tok_tup _) hus15) i hih vx ex
      have D17 := D16.same s17
      have u17 := u16.trans (Up.of s17)
      refine ⟨tp, _, rfl, .inl (.inl upd_same), rfl, _, _, rfl, _, _, rfl, ⟨t, _, rfl, ht, rfl, _, _, rfl, _, _, rfl, rfl, rfl, ?_⟩⟩
      have hgt : (hdT z z2 ++ R)[i]? = some (TT[i].1, TT[i].2) := by rw [hTT, List.getElem?_eq_getElem hih]
      generalize TT[i].1 = zz at hgt ht ⊢
      generalize TT[i].2 = kk at hgt ht ⊢
      generalize upd H16 tp (.tup [.int (i : Nat), .ref t]) = H17 at D17 u17 ⊢
      clear ht
      have hW17 := u17 _ _ hW15 mW.1 mW.2
      have sne : ∀ {a b : Str}, a ≠ b → (!decide (V.str a = V.str b)) = true := fun h => by rw [decide_eq_false fun e => h (V.str.inj e)]; rfl
      have seq : ∀ {a : Str}, (!decide (V.str a = V.str a)) = false := by intro a; rw [decide_eq_true rfl]; rfl
      by_cases hk : kk = "h"
      · subst hk
        refine ⟨_, rfl, rfl, false, congrArg V.bl seq, nx_ ?_⟩
        refine ⟨_, rfl, (by show 3 ≤ sizeLine; decide), fun p8 n8 => ⟨p8, _, rfl, .inl (sl upd_same), rfl, rfl, false, congrArg V.bl ((inV_var _).trans (by decide +kernel)), ?_⟩⟩
        have s8 := same_upd (o := .lst [.str "n", .str "t", .str "c"]) n8
        exact ⟨_, _, _, _, _, _, rfl, D17.same s8, u17.trans (Up.of s8)⟩
      · have hk9 : kk ∈ kinds9 := by
          rcases List.mem_append.mp (List.mem_of_getElem? hgt) with h | h
          · simp only [hdT, List.mem_cons, List.not_mem_nil, or_false, Prod.mk.injEq] at h
            rcases h with h | h | h | h | h
            · exact absurd h.2 hk
            · rw [h.2]; decide +kernel
            · rw [h.2]; decide +kernel
            · exact absurd h.2 hk
            · rw [h.2]; decide +kernel
          · exact (Ro.acc _ h).2.2.2
        refine ⟨_, rfl, rfl, true, congrArg V.bl (sne hk), ?_⟩
        refine ⟨_, rfl, kk, rfl, hk9, fun Lb H18 s18 hLb => nm1 (nx_ ?_)⟩
        have D18 := D17.same s18
        obtain ⟨bne, bl⟩ := badW_len hk9
        have bp := List.length_pos_iff.mpr bne
        refine ⟨_, rfl, _, rfl, _, rfl, ⟨Lb, _, rfl, .inl hLb, d, g, c, _, rfl, D18, ?_, ?_, fun j H19 j0 j1 D19 u19 => ?_⟩⟩
        · rw [List.length_map]; omega
        · rw [List.length_map]
          have : (10 : Int) ^ 13 = 10000000000000 := by decide
          omega
        obtain ⟨n, rfl⟩ := Int.eq_ofNat_of_zero_le j0
        rw [List.length_map] at j1
        have hn : n < (badW kk).length := by omega
        refine ⟨Lb, _, _, _, rfl, rfl, sql_up D18 hLb bne u19, atI_str hn, nm1 (nx_ ?_)⟩
        have hbm : (badW kk)[n] ∈ badW kk := List.getElem_mem hn
        generalize (badW kk)[n] = bb at hbm ⊢
        have u1719 : Up d g H17 H19 := (Up.of s18).trans u19
        have hW19 := u1719 _ _ hW17 mW.1 mW.2
        refine put_run (K := K) (d := d) (g := g) (c := c) (W := W) (ws := wsT z z2 R) (i := i) (M := fun b => b = bb) rfl rfl (fun H1 Q' s q => ⟨_, rfl, q bb H1 rfl (D19.same s) (Up.refl _)⟩) hW19 mW D19 (by omega) (by omega) fun b p H20 hb hp D20 u20 => ?_
        subst hb
        have bw := bad_ok hk9 hbm
        have pwk := putW_wk (i := i) hwk bw.2.1
        refine ⟨p, putW (wsT z z2 R) i b, (i : Int), rfl, sl hp, fun y hy => (pwk y hy).wd, fun y hy => ⟨(pwk y hy).len, (pwk y hy).ok⟩, by rw [putW_len (by omega)]; omega, text_bad Ro hz hz2 hgt hk hbm, fun H21 s21 => ?_⟩
        refine ⟨_, rfl, rfl, false, congrArg V.bl (ine _), nx_ ?_⟩
        have D21 := D20.same s21
        have u21 : Up d g H15 H21 := ((u17.trans u1719).trans u20).trans (Up.of s21)
        have hW21 := u21 _ _ hW15 mW.1 mW.2
        refine ⟨_, rfl, (by show 3 ≤ sizeLine; decide), fun p8 n8 => ⟨p8, _, rfl, .inl (sl upd_same), rfl, rfl, isVar kk, congrArg V.bl (inV_var _), ?_⟩⟩
        have s8 := same_upd (o := .lst [.str "n", .str "t", .str "c"]) n8
        have D22 := D21.same s8
        have u22 := u21.trans (Up.of s8)
        have hW22 := s8 _ _ hW21
        cases hv : isVar kk with
        | false => exact ⟨_, _, _, _, _, _, rfl, D22, u22⟩
        | true =>
          have hk3 : kk = ("n" : Str) ∨ kk = ("t" : Str) ∨ kk = ("c" : Str) := by
            unfold isVar at hv
            simpa only [Bool.or_eq_true, decide_eq_true_eq] using hv
          refine put_run (K := K) (d := d) (g := g) (c := c) (W := W) (ws := wsT z z2 R) (i := i) (M := fun b => Acc kk b = true ∧ Wk b) rfl rfl (fun H1 Q' s q => ⟨_, rfl, _, rfl, d, g, c, kk, rfl, D22.same s, hk3, fun y H' h1 h2 D' u' => q y H' ⟨h1, h2⟩ D' u'⟩) hW22 mW D22 (by omega) (by omega) fun b p2 H23 hb hp2 D23 u23 => nm1 (nx_ ?_)
          have pwk := putW_wk (i := i) hwk hb.2
          refine ⟨_, rfl, p2, putW (wsT z z2 R) i b, -1, rfl, sl hp2, fun y hy => (pwk y hy).wd, fun y hy => ⟨(pwk y hy).len, (pwk y hy).ok⟩, by rw [putW_len (by omega)]; omega, text_good Ro hz hz2 hgt hv hb.1 hb.2, fun H24 s24 => ?_⟩
          refine ⟨1, rfl, rfl, false, congrArg V.bl (ine _), ?_⟩
          exact ⟨_, _, _, _, _, _, rfl, D23.same s24, (u22.trans u23).trans (Up.of s24)⟩
    rintro σ H16 ⟨y7, y8, y9, y10, y11, y12, rfl, D16, u16⟩
    refine nx_ ?_
    refine ⟨Nat.zero_le _, fun p8 n8 => ?_⟩
    have eqt : ∀ i : Int, decide (V.int i = V.int i) = true := fun i => decide_eq_true rfl
    refine ⟨p8, [], -1, rfl, sl upd_same, (fun _ h => nomatch h), (fun _ h => nomatch h), Nat.zero_le _, tells_nil, fun H17 s17 => ?_⟩
    refine ⟨1, rfl, rfl, true, congrArg V.bl (eqt _), ?_⟩
    refine ⟨(by show 1 ≤ sizeLine; decide), fun p9 n9 => ?_⟩
    have w1 : wkB "}" = true := by decide +kernel
    refine ⟨p9, ["}"], 0, rfl, sl upd_same, (fun y hy => by rw [List.mem_singleton.mp hy]; exact (wkB_ok w1).wd), (fun y hy => by rw [List.mem_singleton.mp hy]; exact ⟨(wkB_ok w1).len, (wkB_ok w1).ok⟩), (by decide), tells_one, fun H18 s18 => ?_⟩
    refine ⟨rfl, ?_⟩
    rw [eqt]
    exact fin _
end
end TP
namespace TP
open PySem PySem.Spec PyProof.Rows L2 HX HB HG HU HH HD HS HV HQ HK HN HJ TL HM HR
/-! ### the head -/
def faL0 : List He.Fa := [.glo "is_name", .glo "is_number", .glo "is_calc", .glo "bodies_of", .glo "is_part", .glo "is_row", .glo "around_in", .glo "wrong_in", .glo "first_wrong", .glo "places_in", .glo "are_sizes", .glo "are_locks", .meth "NoProgram" "__init__", .meth "Program" "__init__", .glo "_law_begun", .glo "_law_next", .glo "_law_name", .glo "is_figures", .meth "Reader" "__init__", .meth "Reader" "peek"]
def faL1 : List He.Fa := [.meth "Reader" "take_if", .meth "Reader" "take_word", .meth "Reader" "take_name", .meth "Reader" "take_number", .meth "Reader" "take_calc", .meth "Reader" "take_part", .meth "Reader" "take_rows", .glo "read_program", .meth "NoText" "__init__", .glo "_law_told", .glo "_law_rows", .glo "_law_bad", .glo "_law_good", .glo "law", .glo "NoProgram", .exm "NoProgram" "NoProgram" true, .noat "NoProgram" "place", .glo "Program", .cls "Program", .mkr "Program"]
def faL2 : List He.Fa := [.noat "Program" "spots", .noat "Program" "tree", .noat "Program" "first", .noat "Program" "bolts", .noat "Program" "widths", .glo "Reader", .cls "Reader", .mkr "Reader", .noat "Reader" "left", .noat "Reader" "at", .glo "NoText", .exm "NoText" "NoText" true, .noat "NoText" "at", .glo "YardError", .exm "NoProgram" "NoText" false, .str "LETTERS" "abcdefghijklmnopqrstuvwxyz", .glo "KINDS", .glo "PARTS", .glo "RANGES", .int "MOST_DEEP" 9]
def faL3 : List He.Fa := [.int "MOST_OFTEN" 2, .int "MOST_ROWS" 60, .int "MOST_NAMES" 4, .glo "NUMBERED", .free "all", .free "bool", .free "dict", .free "enumerate", .free "int", .free "isinstance", .free "len", .free "list", .free "range", .free "set", .free "sorted", .free "str", .free "tuple", .free "zip"]
def faL : List He.Fa := faL0 ++ faL1 ++ faL2 ++ faL3
def dd_isname : He.DefD := ⟨("is_name", none), "is_name", "is_name", defArgs s_isname, defBody s_isname, defScope s_isname, [], []⟩
def dd_isnum : He.DefD := ⟨("is_number", none), "is_number", "is_number", defArgs s_isnum, defBody s_isnum, defScope s_isnum, [], []⟩
def dd_iscalc : He.DefD := ⟨("is_calc", none), "is_calc", "is_calc", defArgs s_iscalc, defBody s_iscalc, defScope s_iscalc, [], []⟩
def dd_bodies : He.DefD := ⟨("bodies_of", none), "bodies_of", "bodies_of", defArgs s_bodies, defBody s_bodies, defScope s_bodies, [], []⟩
def dd_ispart : He.DefD := ⟨("is_part", none), "is_part", "is_part", defArgs s_ispart, defBody s_ispart, defScope s_ispart, [], []⟩
def dd_isrow : He.DefD := ⟨("is_row", none), "is_row", "is_row", defArgs s_isrow, defBody s_isrow, defScope s_isrow, [], []⟩
def dd_around : He.DefD := ⟨("around_in", none), "around_in", "around_in", defArgs s_around, defBody s_around, defScope s_around, [], []⟩
def dd_wrong : He.DefD := ⟨("wrong_in", none), "wrong_in", "wrong_in", defArgs s_wrong, defBody s_wrong, defScope s_wrong, [], []⟩
def dd_first : He.DefD := ⟨("first_wrong", none), "first_wrong", "first_wrong", defArgs s_first, defBody s_first, defScope s_first, [], [("cells", .adr (HH.kwAt ("first_wrong", none) "cells")), ("locks", .adr (HH.kwAt ("first_wrong", none) "locks")), ("channels", .adr (HH.kwAt ("first_wrong", none) "channels"))]⟩
def dd_places : He.DefD := ⟨("places_in", none), "places_in", "places_in", defArgs s_places, defBody s_places, defScope s_places, [], []⟩
def dd_sizes : He.DefD := ⟨("are_sizes", none), "are_sizes", "are_sizes", defArgs s_sizes, defBody s_sizes, defScope s_sizes, [], []⟩
def dd_locks : He.DefD := ⟨("are_locks", none), "are_locks", "are_locks", defArgs s_locks, defBody s_locks, defScope s_locks, [], []⟩
def dd_np : He.DefD := ⟨("NoProgram", some "__init__"), "__init__", "NoProgram.__init__", defArgs s_np, defBody s_np, defScope s_np, [], []⟩
def dd_prog : He.DefD := ⟨("Program", some "__init__"), "__init__", "Program.__init__", defArgs s_prog, defBody s_prog, defScope s_prog, [], [("cells", .non), ("locks", .non), ("channels", .non)]⟩
def dd_begun : He.DefD := ⟨("_law_begun", none), "_law_begun", "_law_begun", defArgs s_begun, defBody s_begun, defScope s_begun, [], []⟩
def dd_next : He.DefD := ⟨("_law_next", none), "_law_next", "_law_next", defArgs s_next, defBody s_next, defScope s_next, [], []⟩
def dd_name : He.DefD := ⟨("_law_name", none), "_law_name", "_law_name", defArgs s_name, defBody s_name, defScope s_name, [], []⟩
def dd_isfig : He.DefD := ⟨("is_figures", none), "is_figures", "is_figures", defArgs s_isfig, defBody s_isfig, defScope s_isfig, [], []⟩
def dd_rinit : He.DefD := ⟨("Reader", some "__init__"), "__init__", "Reader.__init__", defArgs s_rinit, defBody s_rinit, defScope s_rinit, [], []⟩
def dd_peek : He.DefD := ⟨("Reader", some "peek"), "peek", "Reader.peek", defArgs s_peek, defBody s_peek, defScope s_peek, [], []⟩
def dd_takeif : He.DefD := ⟨("Reader", some "take_if"), "take_if", "Reader.take_if", defArgs s_takeif, defBody s_takeif, defScope s_takeif, [], []⟩
def dd_takeword : He.DefD := ⟨("Reader", some "take_word"), "take_word", "Reader.take_word", defArgs s_takeword, defBody s_takeword, defScope s_takeword, [], []⟩
def dd_takename : He.DefD := ⟨("Reader", some "take_name"), "take_name", "Reader.take_name", defArgs s_takename, defBody s_takename, defScope s_takename, [], []⟩
def dd_takenum : He.DefD := ⟨("Reader", some "take_number"), "take_number", "Reader.take_number", defArgs s_takenum, defBody s_takenum, defScope s_takenum, [], []⟩
def dd_takecalc : He.DefD := ⟨("Reader", some "take_calc"), "take_calc", "Reader.take_calc", defArgs s_takecalc, defBody s_takecalc, defScope s_takecalc, [], []⟩
def dd_takepart : He.DefD := ⟨("Reader", some "take_part"), "take_part", "Reader.take_part", defArgs s_takepart, defBody s_takepart, defScope s_takepart, [], []⟩
def dd_takerows : He.DefD := ⟨("Reader", some "take_rows"), "take_rows", "Reader.take_rows", defArgs s_takerows, defBody s_takerows, defScope s_takerows, [], []⟩
def dd_readprog : He.DefD := ⟨("read_program", none), "read_program", "read_program", defArgs s_readprog, defBody s_readprog, defScope s_readprog, [], []⟩
def dd_nt : He.DefD := ⟨("NoText", some "__init__"), "__init__", "NoText.__init__", defArgs s_nt, defBody s_nt, defScope s_nt, [], []⟩
def dd_ltold : He.DefD := ⟨("_law_told", none), "_law_told", "_law_told", defArgs s_ltold, defBody s_ltold, defScope s_ltold, [], []⟩
def dd_lrows : He.DefD := ⟨("_law_rows", none), "_law_rows", "_law_rows", defArgs s_lrows, defBody s_lrows, defScope s_lrows, [], []⟩
def dd_lbad : He.DefD := ⟨("_law_bad", none), "_law_bad", "_law_bad", defArgs s_lbad, defBody s_lbad, defScope s_lbad, [], []⟩
def dd_lgood : He.DefD := ⟨("_law_good", none), "_law_good", "_law_good", defArgs s_lgood, defBody s_lgood, defScope s_lgood, [], []⟩
def dd_law : He.DefD := ⟨("law", none), "law", "law", defArgs s_law, defBody s_law, defScope s_law, [], []⟩
def fnL0 : List He.DefD := [dd_isname, dd_isnum, dd_iscalc, dd_bodies, dd_ispart, dd_isrow, dd_around, dd_wrong, dd_first, dd_places, dd_sizes, dd_locks, dd_np, dd_prog, dd_begun, dd_next, dd_name, dd_isfig, dd_rinit, dd_peek]
def fnL1 : List He.DefD := [dd_takeif, dd_takeword, dd_takename, dd_takenum, dd_takecalc, dd_takepart, dd_takerows, dd_readprog, dd_nt, dd_ltold, dd_lrows, dd_lbad, dd_lgood, dd_law]
def fnL : List He.DefD := fnL0 ++ fnL1
open HH in
def exL0 : List HH.Ex := [fun K => HQ.exB K (He.ga K "NoProgram"), fun K => HQ.inB K (He.ga K "NoProgram"), fun K => HQ.exB K (He.ga K "NoText"), fun K => HQ.inB K (He.ga K "NoText"), fun K => HQ.bsB K (He.ga K "YardError"), fun K => He.tupB K "KINDS" [.str "sum", .str "minus", .str "less"], dtB "PARTS" [("put", [.str "name", .str "calc"]), ("read", [.str "name", .str "cell"]), ("write", [.str "cell", .str "calc"]), ("tell", [.str "calc"]), ("send", [.str "channel", .str "calc"]), ("take", [.str "name", .str "channel"]), ("hold", [.str "lock", .str "body"]), ("rest", [.str "rest"]), ("nest", [.str "scope", .str "body"]), ("within", [.str "span", .str "scope", .str "body"]), ("start", [.str "home", .str "body"]), ("off", [.str "entered"]), ("shield", [.str "body"]), ("fail", [.str "name"]), ("catch", [.str "body", .str "name", .str "body"]), ("try", [.str "body", .str "body"]), ("if", [.str "calc", .str "body", .str "body"]), ("often", [.str "times", .str "body"])], dtB "RANGES" [("rest", [.int 0, .int 9]), ("span", [.int 1, .int 9]), ("times", [.int 0, .int 3])], fun K => He.tupB K "NUMBERED" [.str "rest", .str "span", .str "times"], tpB (kwAt ("first_wrong", none) "cells") [], tpB (kwAt ("first_wrong", none) "locks") [], tpB (kwAt ("first_wrong", none) "channels") []]
open HH in
def exL : List HH.Ex := exL0
def tsL0 : List He.Tab := [(fun K => He.ga K "PARTS", ["put", "read", "write", "tell", "send", "take", "hold", "rest", "nest", "within", "start", "off", "shield", "fail", "catch", "try", "if", "often"]), (fun K => He.ga K "RANGES", ["rest", "span", "times"])]
def tsL : List He.Tab := tsL0
def names0 : List PySem.Str := ["LETTERS", "KINDS", "is_name", "is_number", "is_calc", "YardError", "NoProgram", "NoText", "NoPlace", "PARTS", "RANGES", "MOST_DEEP", "MOST_OFTEN", "bodies_of", "is_part", "is_row", "around_in", "wrong_in", "first_wrong", "places_in"]
def names1 : List PySem.Str := ["calc_words", "row_words", "body_words", "head_words", "MOST_ROWS", "MOST_NAMES", "are_sizes", "are_locks", "row_at", "Program", "NUMBERED", "is_figures", "Reader", "read_program", "_law_begun", "_law_next", "_law_name", "_law_told", "_law_rows", "_law_bad"]
def names2 : List PySem.Str := ["_law_good"]
def names : List PySem.Str := names0 ++ names1 ++ names2
abbrev Rw : PySem.W.OpenRow := PySem.W.OpenLaw.row PySem.Challenge.rw_nestyard_k80_figures_and_names_in_texts
abbrev qv : PySem.Program := PySem.W.view Rw.prog [48]
abbrev hk : PySem.W.Hook := HH.hookX 5 faL fnL exL tsL
def ob (s : PySem.W.SharedT) : HH.AlX := HH.obsXG 5 faL fnL exL tsL (HandSHeadRun.getT s)
theorem ob_eq (s : PySem.W.SharedT) : ob s = hk.obs s.abs := HH.obsXG_eq (HandSHeadRun.getT_eq s)
set_option maxHeartbeats 0 in
theorem runF (w : World) : HandSHeadRun.RunEq Rw qv hk ob 4000 names (w.withFollow "special-get-raises" false) := by
  intro os
  kernel_rfl
set_option maxHeartbeats 0 in
theorem runT (w : World) : HandSHeadRun.RunEq Rw qv hk ob 4000 names (w.withFollow "special-get-raises" true) := by
  intro os
  kernel_rfl
theorem run (w : World) : HandSHeadRun.RunEq Rw qv hk ob 4000 names w := PySem.W.byRow2 "special-get-raises" runF runT w
theorem facts {w : World} {K : PySem.W.Frag} {h : Heap} {mg : Str → Option Value} {fa : Addr} (X : K.In h) (G : h.Ns mainGlobals mg) (hfa : mg ("law" : Str) = some (.ref fa)) (c : HH.SaysX faL fnL exL tsL w K) :
    ∃ (fd : FuncData) (T : Tp K w mg), Fun K "law" "law" s_law fa fd ∧ ∀ (s : Shared) (v : Value), BindsTo s fd ⟨[v], []⟩ [("_law_script", v)] := by
  obtain ⟨fd_isname, F_isname⟩ := c.def_ 0 (d := dd_isname) rfl
  obtain ⟨fd_isnum, F_isnum⟩ := c.def_ 1 (d := dd_isnum) rfl
  obtain ⟨fd_iscalc, F_iscalc⟩ := c.def_ 2 (d := dd_iscalc) rfl
  obtain ⟨fd_bodies, F_bodies⟩ := c.def_ 3 (d := dd_bodies) rfl
  obtain ⟨fd_ispart, F_ispart⟩ := c.def_ 4 (d := dd_ispart) rfl
  obtain ⟨fd_isrow, F_isrow⟩ := c.def_ 5 (d := dd_isrow) rfl
  obtain ⟨fd_around, F_around⟩ := c.def_ 6 (d := dd_around) rfl
  obtain ⟨fd_wrong, F_wrong⟩ := c.def_ 7 (d := dd_wrong) rfl
  obtain ⟨fd_first, F_first⟩ := c.def_ 8 (d := dd_first) rfl
  obtain ⟨fd_places, F_places⟩ := c.def_ 9 (d := dd_places) rfl
  obtain ⟨fd_sizes, F_sizes⟩ := c.def_ 10 (d := dd_sizes) rfl
  obtain ⟨fd_locks, F_locks⟩ := c.def_ 11 (d := dd_locks) rfl
  obtain ⟨fd_np, F_np⟩ := c.def_ 12 (d := dd_np) rfl
  obtain ⟨fd_prog, F_prog⟩ := c.def_ 13 (d := dd_prog) rfl
  obtain ⟨fd_begun, F_begun⟩ := c.def_ 14 (d := dd_begun) rfl
  obtain ⟨fd_next, F_next⟩ := c.def_ 15 (d := dd_next) rfl
  obtain ⟨fd_name, F_name⟩ := c.def_ 16 (d := dd_name) rfl
  obtain ⟨fd_isfig, F_isfig⟩ := c.def_ 17 (d := dd_isfig) rfl
  obtain ⟨fd_rinit, F_rinit⟩ := c.def_ 18 (d := dd_rinit) rfl
  obtain ⟨fd_peek, F_peek⟩ := c.def_ 19 (d := dd_peek) rfl
  obtain ⟨fd_takeif, F_takeif⟩ := c.def_ 20 (d := dd_takeif) rfl
  obtain ⟨fd_takeword, F_takeword⟩ := c.def_ 21 (d := dd_takeword) rfl
  obtain ⟨fd_takename, F_takename⟩ := c.def_ 22 (d := dd_takename) rfl
  obtain ⟨fd_takenum, F_takenum⟩ := c.def_ 23 (d := dd_takenum) rfl
  obtain ⟨fd_takecalc, F_takecalc⟩ := c.def_ 24 (d := dd_takecalc) rfl
  obtain ⟨fd_takepart, F_takepart⟩ := c.def_ 25 (d := dd_takepart) rfl
  obtain ⟨fd_takerows, F_takerows⟩ := c.def_ 26 (d := dd_takerows) rfl
  obtain ⟨fd_readprog, F_readprog⟩ := c.def_ 27 (d := dd_readprog) rfl
  obtain ⟨fd_nt, F_nt⟩ := c.def_ 28 (d := dd_nt) rfl
  obtain ⟨fd_ltold, F_ltold⟩ := c.def_ 29 (d := dd_ltold) rfl
  obtain ⟨fd_lrows, F_lrows⟩ := c.def_ 30 (d := dd_lrows) rfl
  obtain ⟨fd_lbad, F_lbad⟩ := c.def_ 31 (d := dd_lbad) rfl
  obtain ⟨fd_lgood, F_lgood⟩ := c.def_ 32 (d := dd_lgood) rfl
  obtain ⟨fd_law, F_law⟩ := c.def_ 33 (d := dd_law) rfl
  have e := hfa.symm.trans (He.glo_ok X G (c.fact 33 (f := .glo "law") rfl))
  cases e
  have bl := FunD.bindsA (ps := ["_law_script"]) F_law fun _ _ _ _ _ _ us hl => match us, hl with | [_], _ => rfl
  exact ⟨fd_law, { C_YardError := He.ga K "YardError", gC_YardError := He.glo_ok X G (c.fact 53 (f := .glo "YardError") rfl), bs_YardError := HQ.bsB_ok (c.ex_ 4 rfl), C_NoProgram := He.ga K "NoProgram", gC_NoProgram := He.glo_ok X G (c.fact 34 (f := .glo "NoProgram") rfl), x_NoProgram := (HQ.exB_ok (c.ex_ 0 rfl)).1, xf_NoProgram := (HQ.exB_ok (c.ex_ 0 rfl)).2, ee_NoProgram := He.exm_ok (c.fact 35 (f := .exm "NoProgram" "NoProgram" true) rfl), na_NoProgram_place := He.noat_ok (c.fact 36 (f := .noat "NoProgram" "place") rfl), C_Program := He.ga K "Program", gC_Program := He.glo_ok X G (c.fact 37 (f := .glo "Program") rfl), cl_Program := He.cls_ok (c.fact 38 (f := .cls "Program") rfl), na_Program_spots := He.noat_ok (c.fact 40 (f := .noat "Program" "spots") rfl), na_Program_tree := He.noat_ok (c.fact 41 (f := .noat "Program" "tree") rfl), na_Program_first := He.noat_ok (c.fact 42 (f := .noat "Program" "first") rfl), na_Program_bolts := He.noat_ok (c.fact 43 (f := .noat "Program" "bolts") rfl), na_Program_widths := He.noat_ok (c.fact 44 (f := .noat "Program" "widths") rfl), C_Reader := He.ga K "Reader", gC_Reader := He.glo_ok X G (c.fact 45 (f := .glo "Reader") rfl), cl_Reader := He.cls_ok (c.fact 46 (f := .cls "Reader") rfl), na_Reader_left := He.noat_ok (c.fact 48 (f := .noat "Reader" "left") rfl), na_Reader_at := He.noat_ok (c.fact 49 (f := .noat "Reader" "at") rfl), C_NoText := He.ga K "NoText", gC_NoText := He.glo_ok X G (c.fact 50 (f := .glo "NoText") rfl), x_NoText := (HQ.exB_ok (c.ex_ 2 rfl)).1, xf_NoText := (HQ.exB_ok (c.ex_ 2 rfl)).2, ee_NoText := He.exm_ok (c.fact 51 (f := .exm "NoText" "NoText" true) rfl), na_NoText_at := He.noat_ok (c.fact 52 (f := .noat "NoText" "at") rfl), ex_NoProgram_NoText := He.exm_ok (c.fact 54 (f := .exm "NoProgram" "NoText" false) rfl), f_isname := _, fd_isname := fd_isname, D_isname := ⟨HH.funOf F_isname, (FunD.bindsN (ps := ["thing"]) F_isname fun _ _ _ _ _ _ us hl => match us, hl with | [_], _ => rfl), He.glo_ok X G (c.fact 0 (f := .glo "is_name") rfl)⟩, f_isnum := _, fd_isnum := fd_isnum, D_isnum := ⟨HH.funOf F_isnum, (FunD.bindsN (ps := ["thing"]) F_isnum fun _ _ _ _ _ _ us hl => match us, hl with | [_], _ => rfl), He.glo_ok X G (c.fact 1 (f := .glo "is_number") rfl)⟩, f_iscalc := _, fd_iscalc := fd_iscalc, D_iscalc := ⟨HH.funOf F_iscalc, (FunD.bindsN (ps := ["thing"]) F_iscalc fun _ _ _ _ _ _ us hl => match us, hl with | [_], _ => rfl), He.glo_ok X G (c.fact 2 (f := .glo "is_calc") rfl)⟩, f_bodies := _, fd_bodies := fd_bodies, D_bodies := ⟨HH.funOf F_bodies, (FunD.bindsN (ps := ["row"]) F_bodies fun _ _ _ _ _ _ us hl => match us, hl with | [_], _ => rfl), He.glo_ok X G (c.fact 3 (f := .glo "bodies_of") rfl)⟩, f_ispart := _, fd_ispart := fd_ispart, D_ispart := ⟨HH.funOf F_ispart, (FunD.bindsN (ps := ["kind", "thing", "known", "around"]) F_ispart fun _ _ _ _ _ _ us hl => match us, hl with | [_, _, _, _], _ => rfl), He.glo_ok X G (c.fact 4 (f := .glo "is_part") rfl)⟩, f_isrow := _, fd_isrow := fd_isrow, D_isrow := ⟨HH.funOf F_isrow, (FunD.bindsN (ps := ["row", "known", "around"]) F_isrow fun _ _ _ _ _ _ us hl => match us, hl with | [_, _, _], _ => rfl), He.glo_ok X G (c.fact 5 (f := .glo "is_row") rfl)⟩, f_around := _, fd_around := fd_around, D_around := ⟨HH.funOf F_around, (FunD.bindsN (ps := ["row", "around"]) F_around fun _ _ _ _ _ _ us hl => match us, hl with | [_, _], _ => rfl), He.glo_ok X G (c.fact 6 (f := .glo "around_in") rfl)⟩, f_wrong := _, fd_wrong := fd_wrong, D_wrong := ⟨HH.funOf F_wrong, (FunD.bindsN (ps := ["body", "place", "known", "around", "oftens"]) F_wrong fun _ _ _ _ _ _ us hl => match us, hl with | [_, _, _, _, _], _ => rfl), He.glo_ok X G (c.fact 7 (f := .glo "wrong_in") rfl)⟩, f_first := _, fd_first := fd_first, dv_first_cells := HH.kwAt ("first_wrong", none) "cells" K, dt_first_cells := fun H => HH.tpB_ok (c.ex_ 9 rfl) H, dv_first_locks := HH.kwAt ("first_wrong", none) "locks" K, dt_first_locks := fun H => HH.tpB_ok (c.ex_ 10 rfl) H, dv_first_channels := HH.kwAt ("first_wrong", none) "channels" K, dt_first_channels := fun H => HH.tpB_ok (c.ex_ 11 rfl) H, D_first := F_first, g_first := He.glo_ok X G (c.fact 8 (f := .glo "first_wrong") rfl), f_places := _, fd_places := fd_places, D_places := ⟨HH.funOf F_places, (FunD.bindsN (ps := ["body", "place"]) F_places fun _ _ _ _ _ _ us hl => match us, hl with | [_, _], _ => rfl), He.glo_ok X G (c.fact 9 (f := .glo "places_in") rfl)⟩, f_sizes := _, fd_sizes := fd_sizes, D_sizes := ⟨HH.funOf F_sizes, (FunD.bindsN (ps := ["thing", "least", "most"]) F_sizes fun _ _ _ _ _ _ us hl => match us, hl with | [_, _, _], _ => rfl), He.glo_ok X G (c.fact 10 (f := .glo "are_sizes") rfl)⟩, f_locks := _, fd_locks := fd_locks, D_locks := ⟨HH.funOf F_locks, (FunD.bindsN (ps := ["thing"]) F_locks fun _ _ _ _ _ _ us hl => match us, hl with | [_], _ => rfl), He.glo_ok X G (c.fact 11 (f := .glo "are_locks") rfl)⟩, f_np := _, fd_np := fd_np, D_np := HH.funOf F_np, b_np := (FunD.bindsN (ps := ["self", "place"]) F_np fun _ _ _ _ _ _ us hl => match us, hl with | [_, _], _ => rfl), m_np := He.meth_ok (c.fact 12 (f := .meth "NoProgram" "__init__") rfl), i_NoProgram := (HQ.inB_ok (c.ex_ 1 rfl)).1, ti_NoProgram := (HQ.inB_ok (c.ex_ 1 rfl)).2, f_prog := _, fd_prog := fd_prog, D_prog := F_prog, m_prog := He.meth_ok (c.fact 13 (f := .meth "Program" "__init__") rfl), mk_Program := He.mkr_ok (c.fact 39 (f := .mkr "Program") rfl), f_begun := _, fd_begun := fd_begun, D_begun := ⟨HH.funOf F_begun, (FunD.bindsN (ps := ["_law_script"]) F_begun fun _ _ _ _ _ _ us hl => match us, hl with | [_], _ => rfl), He.glo_ok X G (c.fact 14 (f := .glo "_law_begun") rfl)⟩, f_next := _, fd_next := fd_next, D_next := ⟨HH.funOf F_next, (FunD.bindsN (ps := ["_law_draw", "_law_size"]) F_next fun _ _ _ _ _ _ us hl => match us, hl with | [_, _], _ => rfl), He.glo_ok X G (c.fact 15 (f := .glo "_law_next") rfl)⟩, f_name := _, fd_name := fd_name, D_name := ⟨HH.funOf F_name, (FunD.bindsN (ps := ["_law_draw"]) F_name fun _ _ _ _ _ _ us hl => match us, hl with | [_], _ => rfl), He.glo_ok X G (c.fact 16 (f := .glo "_law_name") rfl)⟩, f_isfig := _, fd_isfig := fd_isfig, D_isfig := ⟨HH.funOf F_isfig, (FunD.bindsN (ps := ["word"]) F_isfig fun _ _ _ _ _ _ us hl => match us, hl with | [_], _ => rfl), He.glo_ok X G (c.fact 17 (f := .glo "is_figures") rfl)⟩, f_rinit := _, fd_rinit := fd_rinit, D_rinit := HH.funOf F_rinit, b_rinit := (FunD.bindsN (ps := ["self", "text"]) F_rinit fun _ _ _ _ _ _ us hl => match us, hl with | [_, _], _ => rfl), m_rinit := He.meth_ok (c.fact 18 (f := .meth "Reader" "__init__") rfl), mk_Reader := He.mkr_ok (c.fact 47 (f := .mkr "Reader") rfl), f_peek := _, fd_peek := fd_peek, D_peek := HH.funOf F_peek, b_peek := (FunD.bindsN (ps := ["self"]) F_peek fun _ _ _ _ _ _ us hl => match us, hl with | [_], _ => rfl), m_peek := He.meth_ok (c.fact 19 (f := .meth "Reader" "peek") rfl), f_takeif := _, fd_takeif := fd_takeif, D_takeif := HH.funOf F_takeif, b_takeif := (FunD.bindsN (ps := ["self", "good"]) F_takeif fun _ _ _ _ _ _ us hl => match us, hl with | [_, _], _ => rfl), m_takeif := He.meth_ok (c.fact 20 (f := .meth "Reader" "take_if") rfl), f_takeword := _, fd_takeword := fd_takeword, D_takeword := HH.funOf F_takeword, b_takeword := (FunD.bindsN (ps := ["self", "word"]) F_takeword fun _ _ _ _ _ _ us hl => match us, hl with | [_, _], _ => rfl), m_takeword := He.meth_ok (c.fact 21 (f := .meth "Reader" "take_word") rfl), f_takename := _, fd_takename := fd_takename, D_takename := HH.funOf F_takename, b_takename := (FunD.bindsN (ps := ["self"]) F_takename fun _ _ _ _ _ _ us hl => match us, hl with | [_], _ => rfl), m_takename := He.meth_ok (c.fact 22 (f := .meth "Reader" "take_name") rfl), f_takenum := _, fd_takenum := fd_takenum, D_takenum := HH.funOf F_takenum, b_takenum := (FunD.bindsN (ps := ["self"]) F_takenum fun _ _ _ _ _ _ us hl => match us, hl with | [_], _ => rfl), m_takenum := He.meth_ok (c.fact 23 (f := .meth "Reader" "take_number") rfl), f_takecalc := _, fd_takecalc := fd_takecalc, D_takecalc := HH.funOf F_takecalc, b_takecalc := (FunD.bindsN (ps := ["self"]) F_takecalc fun _ _ _ _ _ _ us hl => match us, hl with | [_], _ => rfl), m_takecalc := He.meth_ok (c.fact 24 (f := .meth "Reader" "take_calc") rfl), f_takepart := _, fd_takepart := fd_takepart, D_takepart := HH.funOf F_takepart, b_takepart := (FunD.bindsN (ps := ["self", "kind"]) F_takepart fun _ _ _ _ _ _ us hl => match us, hl with | [_, _], _ => rfl), m_takepart := He.meth_ok (c.fact 25 (f := .meth "Reader" "take_part") rfl), f_takerows := _, fd_takerows := fd_takerows, D_takerows := HH.funOf F_takerows, b_takerows := (FunD.bindsN (ps := ["self", "last"]) F_takerows fun _ _ _ _ _ _ us hl => match us, hl with | [_, _], _ => rfl), m_takerows := He.meth_ok (c.fact 26 (f := .meth "Reader" "take_rows") rfl), f_readprog := _, fd_readprog := fd_readprog, D_readprog := ⟨HH.funOf F_readprog, (FunD.bindsN (ps := ["text"]) F_readprog fun _ _ _ _ _ _ us hl => match us, hl with | [_], _ => rfl), He.glo_ok X G (c.fact 27 (f := .glo "read_program") rfl)⟩, f_nt := _, fd_nt := fd_nt, D_nt := HH.funOf F_nt, b_nt := (FunD.bindsN (ps := ["self", "at"]) F_nt fun _ _ _ _ _ _ us hl => match us, hl with | [_, _], _ => rfl), m_nt := He.meth_ok (c.fact 28 (f := .meth "NoText" "__init__") rfl), i_NoText := (HQ.inB_ok (c.ex_ 3 rfl)).1, ti_NoText := (HQ.inB_ok (c.ex_ 3 rfl)).2, f_ltold := _, fd_ltold := fd_ltold, D_ltold := ⟨HH.funOf F_ltold, (FunD.bindsN (ps := ["_law_words"]) F_ltold fun _ _ _ _ _ _ us hl => match us, hl with | [_], _ => rfl), He.glo_ok X G (c.fact 29 (f := .glo "_law_told") rfl)⟩, f_lrows := _, fd_lrows := fd_lrows, D_lrows := ⟨HH.funOf F_lrows, (FunD.bindsN (ps := ["_law_draw"]) F_lrows fun _ _ _ _ _ _ us hl => match us, hl with | [_], _ => rfl), He.glo_ok X G (c.fact 30 (f := .glo "_law_rows") rfl)⟩, f_lbad := _, fd_lbad := fd_lbad, D_lbad := ⟨HH.funOf F_lbad, (FunD.bindsN (ps := ["_law_kind"]) F_lbad fun _ _ _ _ _ _ us hl => match us, hl with | [_], _ => rfl), He.glo_ok X G (c.fact 31 (f := .glo "_law_bad") rfl)⟩, f_lgood := _, fd_lgood := fd_lgood, D_lgood := ⟨HH.funOf F_lgood, (FunD.bindsN (ps := ["_law_draw", "_law_kind"]) F_lgood fun _ _ _ _ _ _ us hl => match us, hl with | [_, _], _ => rfl), He.glo_ok X G (c.fact 32 (f := .glo "_law_good") rfl)⟩, c_LETTERS := He.str_ok X G (c.fact 55 (f := .str "LETTERS" "abcdefghijklmnopqrstuvwxyz") rfl), a_KINDS := He.ga K "KINDS", c_KINDS := He.glo_ok X G (c.fact 56 (f := .glo "KINDS") rfl), t_KINDS := fun H => He.tupB_ok (c.ex_ 5 rfl) H, a_PARTS := He.ga K "PARTS", c_PARTS := He.glo_ok X G (c.fact 57 (f := .glo "PARTS") rfl), d_PARTS := HH.DT.of (c.ex_ 6 rfl) (c.dic 0 rfl) rfl, a_RANGES := He.ga K "RANGES", c_RANGES := He.glo_ok X G (c.fact 58 (f := .glo "RANGES") rfl), d_RANGES := HH.DT.of (c.ex_ 7 rfl) (c.dic 1 rfl) rfl, c_MOST_DEEP := He.int_ok X G (c.fact 59 (f := .int "MOST_DEEP" 9) rfl), c_MOST_OFTEN := He.int_ok X G (c.fact 60 (f := .int "MOST_OFTEN" 2) rfl), c_MOST_ROWS := He.int_ok X G (c.fact 61 (f := .int "MOST_ROWS" 60) rfl), c_MOST_NAMES := He.int_ok X G (c.fact 62 (f := .int "MOST_NAMES" 4) rfl), a_NUMBERED := He.ga K "NUMBERED", c_NUMBERED := He.glo_ok X G (c.fact 63 (f := .glo "NUMBERED") rfl), t_NUMBERED := fun H => He.tupB_ok (c.ex_ 8 rfl) H, all := He.free_ok X G (c.fact 64 (f := .free "all") rfl), bool := He.free_ok X G (c.fact 65 (f := .free "bool") rfl), dict := He.free_ok X G (c.fact 66 (f := .free "dict") rfl), enumerate := He.free_ok X G (c.fact 67 (f := .free "enumerate") rfl), int := He.free_ok X G (c.fact 68 (f := .free "int") rfl), isinstance := He.free_ok X G (c.fact 69 (f := .free "isinstance") rfl), len := He.free_ok X G (c.fact 70 (f := .free "len") rfl), list := He.free_ok X G (c.fact 71 (f := .free "list") rfl), range := He.free_ok X G (c.fact 72 (f := .free "range") rfl), set := He.free_ok X G (c.fact 73 (f := .free "set") rfl), sorted := He.free_ok X G (c.fact 74 (f := .free "sorted") rfl), str := He.free_ok X G (c.fact 75 (f := .free "str") rfl), tuple := He.free_ok X G (c.fact 76 (f := .free "tuple") rfl), zip := He.free_ok X G (c.fact 77 (f := .free "zip") rfl) }, HH.funOf F_law, fun s v => bl s [v] rfl⟩
end TP
open PySem PySem.W PySem.Calls PyProof.Rows
set_option maxRecDepth 100000 in
set_option maxHeartbeats 0 in
theorem PySem.Challenge.cw_nestyard_k80_figures_and_names_in_texts_holds : PySem.Challenge.rw_nestyard_k80_figures_and_names_in_texts.Holds := by
  w_on; o_law
  refine HandSHeadRun.head_any (r := OpenLaw.row PySem.Challenge.rw_nestyard_k80_figures_and_names_in_texts) (q := TP.qv) (H := TP.hk) (ob := TP.ob) (M := 4000) (loose := TP.names) (d := HandSHeadRun.topDef (OpenLaw.row PySem.Challenge.rw_nestyard_k80_figures_and_names_in_texts).prog 48) (kwd := []) TP.ob_eq
    (by kernel_rfl) (fun s => by kernel_rfl) TP.run (by kernel_rfl) (by kernel_rfl) (by kernel_rfl) (by rfl) (by first | assumption | decide +kernel) (by decide +kernel) ⟨rfl, rfl, rfl, rfl, rfl, by decide +kernel⟩ ?hw ?hc
  case hw => w_witness2
  case hc =>
    refine HH.walk_ofX (l := PySem.Challenge.rw_nestyard_k80_figures_and_names_in_texts) (n := 63) (k := 60) (x := "_law_script") (CX := L2.CX0) rfl (by decide) (by kernel_rfl) ⟨rfl, by decide, by decide⟩ ?F (fun _ _ _ _ z => z)
    intro w mg fa h Y G hmg0
    obtain ⟨K, KX, c⟩ := Y
    have hmg : mg ("law" : PySem.Str) = some (.ref fa) := by
      have e : (HandSHeadRun.topDef (OpenLaw.row PySem.Challenge.rw_nestyard_k80_figures_and_names_in_texts).prog 48).name = ("law" : PySem.Str) := by kernel_rfl
      rw [← e]
      exact hmg0
    obtain ⟨fd, T, F, hb⟩ := TP.facts KX G hmg c
    exact ⟨K, fd, TP.spLaw K, KX, hb, fun H a ns hl _ hS => ⟨a, ns, rfl, hS, hl, fun _ => rfl⟩, fun base _ _ => TP.ok_law F T⟩
