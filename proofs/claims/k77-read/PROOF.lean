import PyProof.Rows.All
import Wide.All
import OpenK.AllK
import Wide.FinOn
import KE.KUnpackStar
import HandS.ForMost
import KE.SortData
import KE.KDictPairs
import PyProof.DictUpdate
import HandS.NoneIn
import PyProof.StrOps2
import PyProof.ReprReads
import PyProof.Rows.NestShow
import HandS.IsInst
import HandS.Flow
import HandS.Style
import HandS.Walk
import HandS.Evl
import HandS.Wide
import HandS.DictComp
import PyProof.SumAny
import HandS.Defaults
import HandS.More
import HandS.Head0
import HandS.Head1
import HandS.Head2
import HandS.HeadEnd
import HandS.HeadHook1
import HandS.HeadHook2
import HandS.HeadHook3
import KE.GoesMore
import KE.GoesZip
import HandS.Zip
import PyProof.Rows.SeqMore
import HandS.Strs
import HandS.ExcInit
import HandS.ExcField
import HandS.ExcOwn
import HandS.MakeKwOnly
import HandS.WordsExc
import PyProof.CallStr
import HandS.RaiseMore
import PyProof.MeetsIn
import HandS.Deep
import HandS.ExcIs
import PyProof.InstNe
import KE.KEqNest
import PyProof.NeKinds
import PyProof.ReprBulk
import HandS.Codes
import PySem.Challenge.RW_nestyard_k77_whole_texts_read_back
set_option Elab.async false
set_option linter.all false
set_option maxRecDepth 100000
set_option maxHeartbeats 4000000
set_option autoImplicit false
/-! Own rules over the hand layer: targets with a star. -/
namespace HX
open PySem PySem.Spec PySem.Calls PyProof.Rows L2
section
variable {prog : Program} {w : World} {A : Around} {E : Value → Shared → Prop} {s : Shared}
/-- the items of a tuple over n targets of which the i-th has a star -/
theorem star_run {t : Addr} {its : Array Value} {n i : Nat} {Q : List Value → Shared → Prop} (ht : IsTup s.heap t its) (hh : A.handled = none) (hi : i < n) (hn : n ≤ its.size + 1) (hz : its.size ≤ 16384)
    (q : ∀ (g : Heap) (tk : Nat), (∀ b o, s.heap.get? b = some o → g.get? b = some o) →
      Q (its.toList.take i ++ [.ref g.objs.size] ++ (its.toList.drop i).drop (its.size + 1 - n)) { s with heap := g.push { cls := .type "list", data := .seq ((its.toList.drop i).take (its.size + 1 - n)).toArray }, toks := tk }) :
    wpAny (model prog w) A (unpackItems (.ref t) n (some i)) Q E s := by
  have tlt : t < s.heap.objs.size := ht.lt
  have tne : t ≠ s.heap.objs.size := Nat.ne_of_lt tlt
  have lens : (its.toList.take i).length = i ∧ (its.toList.drop i).length = its.size - i := by
    refine ⟨?_, ?_⟩
    · rw [List.length_take, Array.length_toList]; omega
    · rw [List.length_drop, Array.length_toList]
  unfold unpackItems
  apply wpAny_bind
  unfold notIterableAtAll
  apply wpAny_bind
  refine wpAny_specialOf ht.typeIs slot_tuple_iter.lookup (wpAny_pure ?_)
  simp only [Bool.false_eq_true, if_false]
  apply wpAny_bind
  refine wpAny_holding (iter_tuple ht ?_)
  apply wpAny_bind
  refine wpAny_holding (draw_tuple tne i 0 _ _ ⟨_, Heap.get?_push_size _ rfl, rfl, rfl⟩ (ht.push _) (by omega) fun g1 it1 sb => ?_)
  have ht1 : IsTup g1 t its := (ht.push _).extBut sb.extBut tne
  rw [Nat.zero_add] at it1
  obtain ⟨oi, eoi, _⟩ := id it1
  rw [List.drop_zero, if_neg (show ¬ ((its.toList.take i).length < i) by rw [lens.1]; exact Nat.lt_irrefl _)]
  apply wpAny_bind
  refine wpAny_holding (PySem.W.kun_collect (s := { s with heap := g1 }) (T := "tuple_iterator") (.inr (.inr (.inr rfl))) (Walks.tuple (A := A.in1) hh s.heap.objs.size t tne its) (fun j u st => st.1.typeIs) (k := i) (by omega) ⟨it1, ht1⟩ (Heap.lt_size eoi) ht1.lt (fun g2 tk kp => ?_) (by rw [sizeLine_eq]; omega))
  have mid : (its.toList.drop i).length - (n - 1 - i) = its.size + 1 - n := by rw [lens.2]; omega
  have enough : ¬ ((its.toList.drop i).length < n - 1 - i) := by rw [lens.2]; omega
  show wpAny _ _ (if (its.toList.drop i).length < n - 1 - i then _ else _) _ _ _
  rw [if_neg enough]
  show wpAny _ _ (newList ((its.toList.drop i).take ((its.toList.drop i).length - (n - 1 - i))) >>= fun d => pure (its.toList.take i ++ [d] ++ (its.toList.drop i).drop ((its.toList.drop i).length - (n - 1 - i)))) _ _ _
  rw [mid]
  apply wpAny_bind
  refine wpAny_newList (wpAny_pure ?_) (by rw [List.length_take, lens.2, sizeLine_eq]; omega)
  exact q g2 tk fun b o e => kp b o (Nat.ne_of_lt (Heap.lt_size e)) (sb.extBut b o (Nat.ne_of_lt (Heap.lt_size e)) (Heap.get?_push_of_some _ e))
end
/-- (a, *b, c) = a tuple: the starred one is a new list -/
def gStar (K : PySem.W.Frag) (n i : Nat) (t : TGs) : TG := fun v σ H Q => ∃ a xs, v = .ref a ∧ SqT K H a xs ∧ n ≤ xs.length + 1 ∧ xs.length ≤ 16384 ∧
  ∀ p, H p = none → t (xs.take i ++ [.ref p] ++ (xs.drop i).drop (xs.length + 1 - n)) σ (upd H p (.lst ((xs.drop i).take (xs.length + 1 - n)))) Q
section
variable {X : Cx}
theorem pgs_star {e : Expr} {es : List Expr} {t : TG} {u : TGs} {p : Pos} (h1 : PG X e t) (h2 : PGs X es u) : PGs X (.Starred e p :: es) (gCons t u) := by
  constructor
  intro pins s σ H vs us Q I r h
  obtain ⟨v, vr, rfl, h⟩ := h
  cases r with
  | cons r rr =>
    show wpAny _ _ (assignInOrder (assign e X.env :: (assignEach es X.env).map (·.2)) _) _ _ _
    exact assignInOrder_cons (thn (h1.run pins s σ H _ _ _ I r h) fun _ s1 ⟨σ1, H1, I1, q1⟩ => h2.run pins s1 σ1 H1 _ _ Q I1 rr q1)
theorem pg_star {es : List Expr} {k : Nat} {t : TGs} {n i : Nat} {pos : Pos} (hc : X.calm = true) (h : PGs X es t)
    (hn : (assignEach es X.env).length = n := by rfl) (hst : (assignEach es X.env).findIdx? (·.1) = some i := by rfl) (hi : i < n := by decide) : PG X (.Tuple es k pos) (gStar X.K n i t) := by
  refine ⟨fun pins s σ H v u Q I r hw => ?_⟩
  obtain ⟨a, xs, e1, hq, hl, hz, hw⟩ := hw
  subst e1
  cases r
  obtain ⟨its, rv, ht, _⟩ := I.tuple hq
  have el : its.length = xs.length := rv.length.symm
  rw [assign_Tuple]
  refine wpAny_bind (wpAny_standAt ?_)
  unfold unpack
  rw [hn, hst]
  refine wpAny_bind (wpAny_holding (star_run ht (I.ok.hd hc) hi (by rw [List.size_toArray, el]; exact hl) (by rw [List.size_toArray, el]; exact hz) fun g tk kp => ?_))
  simp only [List.size_toArray, el]
  have I1 : Inv X pins σ H { s with heap := g, toks := tk } := I.kept kp
  have I2 : Inv X pins σ (upd H g.objs.size (.lst ((xs.drop i).take (xs.length + 1 - n)))) { s with heap := g.push { cls := .type "list", data := .seq ((its.drop i).take (xs.length + 1 - n)).toArray }, toks := tk } :=
    I1.laid (t' := tk) (fun b o q => Heap.get?_push_of_some _ q) (Nat.le_refl _)
      ⟨Nat.le_trans (Nat.le_trans (List.length_take_le' _ _) (by rw [List.length_drop]; exact Nat.sub_le _ _)) (Nat.le_trans hz (by rw [sizeLine_eq]; omega)), _, 0, (rv.drop i).take _, Heap.get?_push_size _ rfl⟩
  exact h.run pins _ σ _ _ _ Q I2 (((rv.take i).append (show Vals [V.ref g.objs.size] [Value.ref g.objs.size] from .cons rfl .nil)).append ((rv.drop i).drop _)) (hw _ (I1.hok.fresh (Nat.le_refl _)))
end
end HX
/-! Own rules over the hand layer: sorted of data; dict of a tuple of pairs; update by a dict; a tuple whose object is plain. -/
namespace HX
open PySem PySem.Spec PySem.Calls PyProof.Rows L2
open PySem.W (EachIs)
section
variable {K : PySem.W.Frag} {H H' : Hp}
theorem dpAll_len : ∀ {xs : List V} {ds : List PyData}, DpAll K H xs ds → xs.length = ds.length
  | _, _, .nil => rfl
  | _, _, .cons _ t => congrArg (· + 1) (dpAll_len t)
theorem each_len {α β : Type} {R : α → β → Prop} : ∀ {as : List α} {bs : List β}, EachIs R as bs → as.length = bs.length
  | _, _, .nil => rfl
  | _, _, .cons _ t => congrArg (· + 1) (each_len t)
theorem each_of_vals : ∀ {xs : List V} {us : List Value} {ds : List PyData}, Vals xs us → xs.length = ds.length → EachIs (fun (u : Value) (b : V × PyData) => RelV b.1 u) us (xs.zip ds)
  | _, _, [], r, h => by
    cases r with
    | nil => exact .nil
    | cons _ _ => cases h
  | _, _, d :: ds, r, h => by
    cases r with
    | nil => cases h
    | cons r t => exact .cons r (each_of_vals t (Nat.succ.inj h))
theorem vals_of_each : ∀ {us : List Value} {bs : List (V × PyData)}, EachIs (fun (u : Value) (b : V × PyData) => RelV b.1 u) us bs → Vals (bs.map (·.1)) us
  | _, _, .nil => .nil
  | _, _, .cons r t => .cons r (vals_of_each t)
theorem zip_snd : ∀ {xs : List V} {ds : List PyData}, xs.length = ds.length → (xs.zip ds).map (·.2) = ds
  | [], [], _ => rfl
  | x :: xs, d :: ds, h => by
    rw [List.zip_cons_cons, List.map_cons, zip_snd (Nat.succ.inj h)]
/-- the items, sorted by the data that they are -/
def sortD (xs : List V) (ds : List PyData) : List V := ((xs.zip ds).mergeSort (PySem.W.dataLe false (·.2))).map (·.1)
theorem sortD_perm {xs : List V} {ds : List PyData} (h : xs.length = ds.length) : (sortD xs ds).Perm xs := by
  have h1 := (List.mergeSort_perm (xs.zip ds) (PySem.W.dataLe false (·.2))).map (·.1)
  rwa [List.map_fst_zip (Nat.le_of_eq h)] at h1
def rSortD (K : PySem.W.Frag) : List V → Hp → VK → Prop := fun vs H Q => ∃ (a : Addr) (xs : List V) (ds : List PyData), vs = [V.ref a] ∧ SqL K H a xs ∧ DpAll K H xs ds ∧ PySem.W.AllAlike ds ∧ PySem.W.Sortable ds ∧ (∀ d ∈ ds, d.depth ≤ 60) ∧
  ∀ p, H p = none → Q (.ref p) (upd H p (.lst (sortD xs ds)))
end
section
variable {X : Cx} {pins : List (Addr × Obj)} {σ : L2.St} {H : Hp} {s : Shared}
theorem reads_each (I : Inv X pins σ H s) : ∀ {xs : List V} {us : List Value} {ds : List PyData}, Vals xs us → DpAll X.K H xs ds → EachIs (fun (u : Value) (b : V × PyData) => ∃ as, Reads s.heap u b.2 as) us (xs.zip ds)
  | _, _, _, .nil, .nil => .nil
  | _, _, _, .cons r t, .cons h k => .cons (Dp.reads I _ _ _ h r) (reads_each I t k)
theorem cr_sortD (hu : X.A.units + 64 < cLine) : CallR X (.builtin "sorted") (rSortD X.K) := by
  intro pins s σ H vs us Q I r h
  obtain ⟨a, xs, ds, rfl, hs, hd, hal, hk, hdep, q⟩ := h
  obtain ⟨its, rv, hl, hz⟩ := I.list hs
  rw [Vals.ref1 r]
  have el := dpAll_len hd
  have ez : (xs.zip ds).length = xs.length := by rw [List.length_zip, el, Nat.min_self]
  have e2 : (xs.zip ds).map (fun b : V × PyData => b.2) = ds := zip_snd el
  refine PySem.W.sorted_data (enc := fun b : V × PyData => b.2) hl.isList (each_of_vals rv el) (reads_each I rv hd) (by rw [e2]; exact hal) (by rw [e2]; exact hk) (by rw [ez]; exact hz) (fun b hb => ?_) fun out ho eo => ?_
  · have hb2 : b.2 ∈ ds := by rw [← e2]; exact List.mem_map.mpr ⟨b, hb, rfl⟩
    have := hdep _ hb2
    omega
  · obtain ⟨c, he⟩ := PyProof.Rows.sortedAll_at s.heap its out.toArray
    have hlen : (sortD xs ds).length ≤ sizeLine := by rw [(sortD_perm el).length_eq]; exact hz
    exact ⟨.ref _, upd H (s.heap.objs.size + 1) (.lst (sortD xs ds)), I.laid (t' := s.toks) (fun _ _ => PyProof.Rows.sortedAll_old) (Nat.le_succ _) ⟨hlen, out, c, vals_of_each eo, he⟩, rfl, q _ (I.hok.fresh (Nat.le_succ _))⟩
/-- tuple(list): its object has no dict of its own -/
def rTupP (K : PySem.W.Frag) : List V → Hp → VK → Prop := fun vs H Q => ∃ (a : Addr) (xs : List V), vs = [V.ref a] ∧ SqL K H a xs ∧ ∀ (p : Addr) (o : Obj), H p = none → o.dict = none → Q (.ref p) (upd H p (.frz o (.tup xs)))
theorem call_tupP : CallR X (.type "tuple") (rTupP X.K) := by
  intro pins s σ H vs us Q I r h
  obtain ⟨a, xs, rfl, hs, q⟩ := h
  obtain ⟨its, rv, hl, hz⟩ := I.list hs
  rw [Vals.ref1 r]
  have el := rv.length
  refine call_tuple_list hl.isList (fun g kp => ?_) (by rw [List.size_toArray, ← el]; exact hz)
  have I1 : Inv X pins σ H { s with heap := g } := I.kept (t' := s.toks) kp
  have e : (g.push { cls := .type "tuple", data := .seq its.toArray }).get? g.objs.size = some { cls := .type "tuple", data := .seq its.toArray } := Heap.get?_push_size _ rfl
  exact ⟨.ref g.objs.size, _, I1.laid (t' := s.toks) (fun _ _ k => Heap.get?_push_of_some _ k) (Nat.le_refl _) (show ObjOk X.prog X.w _ _ _ (.frz _ (.tup xs)) from ⟨e, hz, its, rv, _, e, rfl, _, rfl⟩), rfl, q _ _ (I1.hok.fresh (Nat.le_refl _)) rfl⟩
end
end HX
namespace HX
open PySem PySem.Spec PySem.Calls PyProof.Rows L2
open PySem.W (EachIs)
section
variable {X : Cx} {pins : List (Addr × Obj)} {σ : L2.St} {H : Hp} {s : Shared}
theorem pairs_v (I : Inv X pins σ H s) : ∀ {ps : List Addr} {kvs : List (Key × V)}, Paired (fun p kv => SqT X.K H p [kV kv.1, kv.2]) ps kvs →
    ∃ (prs : List (Key × Value)) (rs : List (Value × Value)), KV kvs prs ∧ prs.length = ps.length ∧ rs.length = ps.length ∧
      ∀ (j : Nat) (k v : Value), rs[j]? = some (k, v) → ∃ (b : Addr) (key : Key), ps[j]? = some b ∧ IsTup s.heap b #[k, v] ∧ prs[j]? = some (key, v) ∧ keyIs key k = true
  | _, _, .nil => ⟨[], [], .nil, rfl, rfl, fun j k v e => by simp at e⟩
  | _, _, .cons (a := p) (b := kv) h t => by
    obtain ⟨prs, rs, r, l1, l2, hp⟩ := pairs_v I t
    obtain ⟨its, rv, ht, _⟩ := I.tuple h
    obtain ⟨u, y, ei, ru, ry⟩ := vals2 rv
    subst ei
    refine ⟨(kv.1, y) :: prs, (u, y) :: rs, .cons ⟨rfl, ry⟩ r, congrArg (· + 1) l1, congrArg (· + 1) l2, fun j k v e => ?_⟩
    cases j with
    | zero =>
      obtain ⟨rfl, rfl⟩ := Prod.mk.inj (Option.some.inj e)
      exact ⟨p, kv.1, rfl, ht, rfl, kV_is (P := X.prog) (w := X.w) ru⟩
    | succ j => exact hp j k v e
/-- dict(t), t a plain tuple of pairs -/
def rDictT (K : PySem.W.Frag) : List V → Hp → VK → Prop := fun vs H Q => ∃ (a : Addr) (o : Obj) (ps : List Addr) (kvs : List (Key × V)), vs = [.ref a] ∧ H a = some (.frz o (.tup (ps.map V.ref))) ∧ o.dict = none ∧ Paired (fun p kv => SqT K H p [kV kv.1, kv.2]) ps kvs ∧
  ∀ p, H p = none → Q (.ref p) (upd H p (.dK (mergeK [] kvs)))
theorem call_dictT (hcalm : X.calm = true) : CallR X (.type "dict") (rDictT X.K) := by
  intro pins s σ H vs us Q I r h
  obtain ⟨a, o, ps, kvs, rfl, ha, od, hp, q⟩ := h
  rw [Vals.ref1 r]
  obtain ⟨ho, hz, its, rv, o2, ho2, hc, n, hd⟩ := (show ObjOk X.prog X.w H s.heap a (.frz o (.tup (ps.map V.ref))) from I.hok a _ ha)
  rw [ho] at ho2
  cases ho2
  have ei := refs_at rv
  subst ei
  rw [List.length_map] at hz
  obtain ⟨prs, rs, rel, l1, l2, hq⟩ := pairs_v I hp
  refine PySem.call_dict_pairs (knd := mixKind X.prog X.w) (kvs := prs) (PairArg.tuple a (ps.map Value.ref).toArray (fun j => ps[j]?.getD 0) rs) (I.ok.hd hcalm) ⟨⟨o, n, ho, hc, od, hd⟩, by simp [l2], fun j k v e => ?_⟩ ⟨by rw [l1, l2], fun i k v e => ?_⟩ (by rw [l2]; exact hz) fun h' tk hd' kp => ?_
  · obtain ⟨b, key, e1, e2, _⟩ := hq j k v e
    have e5 : s.heap.IsTuple b #[k, v] := e2
    exact ⟨by simp [e1], .inl (by simpa [e1] using e5)⟩
  · obtain ⟨b, key, e1, e2, e3, e4⟩ := hq i k v e
    exact ⟨key, e3, e4⟩
  · have hm : (s.heap.objs.size == sysModules) = false := beq_eq_false_iff_ne.mpr (Nat.ne_of_gt I.big)
    have hlen : (mergeK [] kvs).length ≤ sizeLine := by
      refine Nat.le_trans (length_mergeK kvs []) ?_
      rw [List.length_nil, Nat.zero_add, rel.length, l1]
      exact hz
    exact ⟨.ref s.heap.objs.size, upd H s.heap.objs.size (.dK (mergeK [] kvs)), I.laid (t' := tk) (fun b o e => kp b o (by simp) e) (Nat.le_refl _) (show ObjOk X.prog X.w _ _ _ (.dK (mergeK [] kvs)) from ⟨hlen, hm, merged [] prs, KV.merge rel .nil, hd'⟩), rfl, q _ (I.hok.fresh (Nat.le_refl _))⟩
end
end HX
/-! Own rules: dict(d), text * number. -/
namespace HX
open PySem PySem.Spec PySem.Calls PyProof.Rows L2
section
variable {X : Cx}
/-- dict(d): a new dict of the same pairs -/
def rDictC : List V → Hp → VK → Prop := fun vs H Q => ∃ (a : Addr) (kvs : List (Key × V)), vs = [.ref a] ∧ Rd H a (.dK kvs) ∧ ∀ p, H p = none → Q (.ref p) (upd H p (.dK kvs))
theorem call_dictC : CallR X (.type "dict") rDictC := by
  intro pins s σ H vs us Q I r h
  obtain ⟨a, kvs, rfl, e, q⟩ := h
  rw [Vals.ref1 r]
  exact d_copyOf I e fun p s' hp I' => ⟨.ref p, _, I', rfl, q p hp⟩
/-- a text so many times -/
def times (x : Str) (n : Nat) : Str := ⟨((List.replicate n x.cps.toList).flatten).toArray⟩
theorem times_len (x : Str) (n : Nat) : (times x n).length = n * x.length := by
  show (List.flatten _).toArray.size = n * x.cps.size
  rw [List.size_toArray, List.length_flatten, List.map_replicate, List.sum_replicate_nat, Array.length_toList]
theorem fold_rep (c : Array Nat) : ∀ (n : Nat) (acc : Array Nat), ((List.replicate n c).foldl (· ++ ·) acc).toList = acc.toList ++ (List.replicate n c.toList).flatten
  | 0, acc => by simp
  | n + 1, acc => by
    rw [List.replicate_succ, List.foldl_cons, fold_rep c n, List.replicate_succ, List.flatten_cons, Array.toList_append, List.append_assoc]
def rTimes : R2 := fun x y H Q => ∃ (z : Str) (n : Nat), x = .str z ∧ y = .int (n : Int) ∧ n ≤ 1000 ∧ z.length ≤ 10000 ∧ Q (.str (times z n)) H
theorem op_times : OpR X (binaryOp .Mult) rTimes := by
  intro pins s σ H x y v u Q I rx ry h
  obtain ⟨z, n, rfl, rfl, hn, hz, q⟩ := h
  obtain ⟨t, rfl⟩ := rx
  obtain ⟨t', rfl⟩ := ry
  have hm : z.length * n ≤ 10000 * 1000 := Nat.mul_le_mul hz hn
  refine PySem.P.mul_str (by simp only [Bool.or_eq_false_iff, decide_eq_false_iff_not]; omega) (fun h1 _ => ?_) (fun _ _ => ?_) ?_
  · have h2 : (0 : Int) < (n : Int) := by omega
    have h3 : (z.length : Int) ≤ (2 ^ 63 - 1) / (n : Int) := Int.le_ediv_of_mul_le h2 (by rw [← Int.natCast_mul]; omega)
    omega
  · rw [Int.toNat_natCast]
    show decide (z.length * n > sizeLine) = false
    rw [decide_eq_false_iff_not, sizeLine_eq]
    omega
  · have fin : ∀ (w : Str), w = times z n → w.length ≤ sizeLine ∧ EP X pins σ Q (.str w s.toks) { s with toks := s.toks + 1 } := fun w e => by
      subst e
      refine ⟨?_, .str (times z n), H, I.tok _, ⟨_, rfl⟩, q⟩
      rw [times_len, Nat.mul_comm, sizeLine_eq]
      omega
    by_cases h0 : n = 0
    · subst h0
      rw [if_pos (by decide)]
      exact fin _ rfl
    · rw [if_neg (show ¬ ((n : Int) < 1) by omega)]
      by_cases h1 : ((n : Int) == 1 || z.length == 0) = true
      · rw [if_pos h1]
        have e : z = times z n := by
          rcases Bool.or_eq_true_iff.mp h1 with h | h
          · have : n = 1 := by have := eq_of_beq h; omega
            subst this
            show z = ⟨([z.cps.toList].flatten).toArray⟩
            simp
          · have hz0 : z.cps = #[] := Array.size_eq_zero_iff.mp (eq_of_beq h)
            show z = ⟨((List.replicate n z.cps.toList).flatten).toArray⟩
            rw [hz0]
            obtain ⟨c⟩ := z
            simp only at hz0
            subst hz0
            congr 1
            induction n with
            | zero => rfl
            | succ m ih =>
              rw [List.replicate_succ, List.flatten_cons]
              by_cases hm0 : m = 0
              · subst hm0; rfl
              · simp
        exact ⟨.str (times z n), H, I, ⟨t, by rw [← e]⟩, q⟩
      · rw [if_neg h1]
        refine fin _ ?_
        show (⟨_⟩ : Str) = ⟨_⟩
        congr 1
        apply Array.toList_inj.mp
        rw [Int.toNat_natCast, fold_rep]
        simp
end
end HX
/-! Own layer: a def's promise where nothing is being shown by repr around it (FnG), so that repr of lists and tuples can be read. -/
namespace HG
open PySem PySem.Spec PySem.Calls PyProof.Rows L2
/-- nothing is being shown -/
abbrev Shut (A : Around) : Prop := A.guards = some []
structure FnG (P : Program) (w : World) (K : PySem.W.Frag) (mg : Str → Option Value) (base : Heap) (CX : CXT) (k : Nat) (f : Addr) (fd : FuncData) (ps : List Str) (sp : Sp) : Prop where
  len : ∀ vs H Q E, sp vs H Q E → vs.length = ps.length
  go : ∀ (A : Around) (fr : List Env) (s : Shared) (H : Hp) (ar : Args) (us : List Value) (vs : List V) (Q : VK) (E : XK), Shut A → Room k A → Env0 P w K mg base A fr s H →
    BindsTo s fd ar (ps.zip us) → Vals vs us → sp vs H Q E → codeAny (model P w) A (.call (.ref f) ar) (CR CX fr P w H s Q E) s
section
variable {P : Program} {w : World} {K : PySem.W.Frag} {mg : Str → Option Value} {base : Heap} {CX : CXT} {j k : Nat} {f : Addr} {fd : FuncData} {ps : List Str} {sp sp' : Sp}
theorem FnG.of (F : FnOk P w K mg base CX k f fd ps sp) : FnG P w K mg base CX k f fd ps sp :=
  ⟨F.len, fun A fr s H ar us vs Q E _ hr e0 hb hv hs => F.run A fr s H ar us vs Q E hr e0 hb hv hs⟩
theorem FnG.mono (F : FnG P w K mg base CX j f fd ps sp) (h : j ≤ k) : FnG P w K mg base CX k f fd ps sp :=
  ⟨F.len, fun A fr s H ar us vs Q E g hr => F.go A fr s H ar us vs Q E g (hr.mono h)⟩
theorem FnG.imp (F : FnG P w K mg base CX k f fd ps sp) (h : ∀ vs H Q E, sp' vs H Q E → sp vs H Q E) : FnG P w K mg base CX k f fd ps sp' :=
  ⟨fun vs H Q E q => F.len vs H Q E (h _ _ _ _ q), fun A fr s H ar us vs Q E g hr e0 hb hv hs => F.go A fr s H ar us vs Q E g hr e0 hb hv (h _ _ _ _ hs)⟩
end
section
variable {X : Cx} {CX : CXT} {k : Nat} {f C : Addr} {fd : FuncData} {ps ks : List Str} {sp : Sp} {dvs : List V} {ds : List Value} {E : XK} {x m : Str} {p pos apos : Pos} {e o : Expr} {es : List Expr} {ta : TE} {t : TA} {kws : List Keyword} {tk : TA}
theorem go_fn {pins : List (Addr × Obj)} {σ : L2.St} {H : Hp} {s : Shared} {Q : VK} {us : List Value} {vs : List V} (F : FnG X.prog X.w X.K X.mg X.base CX k f fd ps sp) (sh : Shut X.A) (hr : Room k X.A) (hb : L2.Binds X.K fd ps ds) (hd : Vals dvs ds)
    (hx : Passes CX X E) (I : Inv X pins σ H s) (r : Vals vs us) (h : sp (vs ++ dvs) H Q E) : wpAny (model X.prog X.w) X.A (call (.ref f) us) (EP X pins σ Q) X.xe s := by
  have r2 : Vals (vs ++ dvs) (us ++ ds) := r.append hd
  have hl := r2.length.symm.trans (F.len _ _ _ _ h)
  have one := F.go X.A X.stack s H ⟨us, []⟩ (us ++ ds) (vs ++ dvs) Q E sh hr I.env0 (hb s us I.kIn hl) r2 h
  refine wpAny_call (codeAny_mono one fun res s' hq => ?_)
  match res, hq with
  | .error e, hq => exact hx pins σ H s e s' I hq
  | .ok (.ret u), hq => exact I.after hq
theorem pe_callG (F : FnG X.prog X.w X.K X.mg X.base CX k f fd ps sp) (sh : Shut X.A) (hr : Room k X.A) (hg : Gl X x) (hm : X.mg x = some (.ref f)) (hk : PySem.W.keepIn X.K (.ref f) = true) (hb : L2.Binds X.K fd ps ds) (hd : Vals dvs ds)
    (hx : Passes CX X E) (ha : PA X (e :: es) t) (hdb : (x == ("__debug__" : Str)) = false := by decide) (he : starEach (e :: es) X.env = (false, eval e X.env) :: starEach es X.env := by rfl)
    (hpl : (backTo pos (starEach es X.env)).any (·.1) = false := by rfl) : PE X (.Call (.Name x p) (e :: es) [] pos) (tCall sp dvs E t) := by
  constructor
  intro pins s σ H Q I h
  apply wpAny_Call_Name_kw
  apply ld_glob I hg hm _ hdb
  exact PySem.W.callWith_K (h₀ := X.base) I.ok.mod.kin hk (thn (ha.run pos pins s σ H _ I h) fun us s1 ⟨vs, H1, I1, r, q⟩ => ⟨I1.kIn, go_fn F sh hr hb hd hx I1 r q⟩) he hpl
theorem pe_callG0 (F : FnG X.prog X.w X.K X.mg X.base CX k f fd ps sp) (sh : Shut X.A) (hr : Room k X.A) (hg : Gl X x) (hm : X.mg x = some (.ref f)) (hk : PySem.W.keepIn X.K (.ref f) = true) (hb : L2.Binds X.K fd ps ds) (hd : Vals dvs ds)
    (hx : Passes CX X E) (hdb : (x == ("__debug__" : Str)) = false := by decide) : PE X (.Call (.Name x p) [] [] pos) (tCall sp dvs E tNil) := by
  constructor
  intro pins s σ H Q I h
  apply wpAny_Call_Name_kw
  apply ld_glob I hg hm _ hdb
  exact PySem.W.callWith_K0 I.kIn hk (go_fn (us := []) F sh hr hb hd hx I .nil h)
theorem pe_methG {pl : Sem Bool} (he : PE X o ta) (c : Cls X.K C) (hm : Meth X.K C m f) (F : FnG X.prog X.w X.K X.mg X.base CX k f fd ps sp) (sh : Shut X.A) (hr : Room k X.A) (hb : L2.Binds X.K fd ps ds) (hd : Vals dvs ds) (hx : Passes CX X E) (ha : PA X (e :: es) t)
    (hst : starEach (e :: es) X.env = (false, eval e X.env) :: starEach es X.env := by rfl) (hpl : (backTo pos (starEach es X.env)).any (·.1) = false := by rfl)
    (ht : eval (.Call (.Attribute o m apos) (e :: es) [] pos) X.env = (eval o X.env >>= fun ov => standAt apos.atName >>= fun _ => holding [ov] (getMethod ov m pl) >>= fun fa =>
      callWith pos fa.1 fa.2 (backTo pos (starEach (e :: es) X.env)) (backToKw pos (keywordEach [] X.env))) := by rfl) : PE X (.Call (.Attribute o m apos) (e :: es) [] pos) (tMeth C m sp dvs E ta t) := by
  constructor
  intro pins s σ H Q I h
  refine PySem.W.methodCall_KW (pl := pl) (thn (he.run pins s σ H _ I h) fun u s1 ⟨y, H1, I1, rx, a, dx, fs, ex, ea, l, q⟩ => ?_) ht
  subst ex
  have eu : u = Value.ref a := rx
  subst eu
  refine getmeth_ok I1 ea c hm l ?_
  exact PySem.W.callWith_K (first := [.ref a]) (h₀ := X.base) I.ok.mod.kin hm.kp (thn (ha.run pos pins s1 σ H1 _ I1 q) fun us s2 ⟨vs, H2, I2, r, q2⟩ => ⟨I2.kIn, go_fn (us := .ref a :: us) (vs := .ref a :: vs) F sh hr hb hd hx I2 (.cons rfl r) q2⟩) hst hpl
theorem pe_methG0 {pl : Sem Bool} (he : PE X o ta) (c : Cls X.K C) (hm : Meth X.K C m f) (F : FnG X.prog X.w X.K X.mg X.base CX k f fd ps sp) (sh : Shut X.A) (hr : Room k X.A) (hb : L2.Binds X.K fd ps ds) (hd : Vals dvs ds) (hx : Passes CX X E)
    (ht : eval (.Call (.Attribute o m apos) [] [] pos) X.env = (eval o X.env >>= fun ov => standAt apos.atName >>= fun _ => holding [ov] (getMethod ov m pl) >>= fun fa =>
      callWith pos fa.1 fa.2 (backTo pos (starEach [] X.env)) (backToKw pos (keywordEach [] X.env))) := by rfl) : PE X (.Call (.Attribute o m apos) [] [] pos) (tMeth C m sp dvs E ta tNil) := by
  constructor
  intro pins s σ H Q I h
  refine PySem.W.methodCall_KW (pl := pl) (thn (he.run pins s σ H _ I h) fun u s1 ⟨y, H1, I1, rx, a, dx, fs, ex, ea, l, q⟩ => ?_) ht
  subst ex
  have eu : u = Value.ref a := rx
  subst eu
  refine getmeth_ok I1 ea c hm l ?_
  exact PySem.W.callWith_K0 (first := [.ref a]) I1.kIn hm.kp (go_fn (us := [.ref a]) (vs := [.ref a]) F sh hr hb hd hx I1 (.cons rfl .nil) q)
end
section
variable {P : Program} {w : World} {K : PySem.W.Frag} {mg : Str → Option Value} {base : Heap}
/-- a def of the text: its body, nothing being shown around it -/
theorem okG {x qual : Str} {st : Stmt} {f : Addr} {fd : FuncData} {N ps : List Str} {k : Nat} {sp : Sp} {CX : CXT} (F : Fun K x qual st f fd) (S : FnScope N ps (defScope st)) (len : ∀ vs H Q E, sp vs H Q E → vs.length = ps.length)
    (body : ∀ (cdv : Value) (A : Around) (fr : List Env) (s : Shared) (H : Hp) (vs : List V) (Q : VK) (E : XK), Shut (A.deeper (envOfC qual (defScope st) s.heap.objs.size f cdv)) → Room k (A.deeper (envOfC qual (defScope st) s.heap.objs.size f cdv)) → sp vs H Q E →
      ∃ t, PSs (cxOf CX P w K mg base N qual (defScope st) f cdv A fr s H E) (defBody st) t ∧ t { nx := fun _ H' => Q .non H', rt := Q } (start N vs) H) : FnG P w K mg base CX (k + 1) f fd ps sp := by
  obtain ⟨oc, od, kV, doc, pm, an, cdv, ct, osl, rfl, lk, hcd⟩ := F.ex
  refine ⟨len, fun A fr s H ar us vs Q E sh hr e0 hb r hsp => ?_⟩
  have KX : K.In s.heap := e0.mod.kin.keeps fun b o e => (e0.bs b o e).1
  have lim : s.heap.NoLimit := e0.mod.nolimit.keeps fun b o e => (e0.bs b o e).1
  have kinds : ∀ y ∈ ps.zip us, (defScope st).names.lookup y.1 = some .local ∨ ((defScope st).names.lookup y.1 = some .cell ∧ ((cellsFrom (s.heap.objs.size + 1) (defScope st).names []).lookup y.1).isSome = true) := by
    rintro ⟨n, v⟩ hy
    exact (S.par n (List.of_mem_zip hy).1).imp id fun q => ⟨q, PySem.W.cellsFrom_some _ _ _ (.inl q)⟩
  refine codeAny_call_function hr.depth (KX _ _ lk) rfl S.co S.gen rfl (PySem.W.codeRec_of KX hcd) (hb _ _ _ _ ?_)
  refine wpAny_newFunctionEnv_cells S.kind kinds fun env he s1 y => ?_
  subst he
  refine ⟨lim.keeps y.toInCall.keep, codeAny_func ?_⟩
  obtain ⟨t, ht, hq⟩ := body cdv A fr s H vs Q E sh (hr.deeper _) hsp
  have I : Inv (cxOf CX P w K mg base N qual (defScope st) f cdv A fr s H E) [] (start N vs) H s1 := inv_start S hr.hd e0 (len _ _ _ _ hsp) r y
  refine wpAny_mono (ht.run [] s1 (start N vs) H _ I hq) (fun fl s' hs => ?_) fun _ _ hs => hs
  match fl, hs with
  | .ret u, ⟨v, _, H', J, rv, q⟩ => exact ⟨v, H', J.os, J.bare, J.base, J.hok, rv, q⟩
  | .next, ⟨_, H', J, q⟩ => exact ⟨V.non, H', J.os, J.bare, J.base, J.hok, rfl, q⟩
  | .brk, ⟨_, _, _, q⟩ => exact q.elim
  | .cont, ⟨_, _, _, q⟩ => exact q.elim
/-- .. where nothing is raised -/
theorem okGn {x qual : Str} {st : Stmt} {f : Addr} {fd : FuncData} {N ps : List Str} {k : Nat} {sp : Sp} {CX : CXT} (F : Fun K x qual st f fd) (S : FnScope N ps (defScope st)) (len : ∀ vs H Q E, sp vs H Q E → vs.length = ps.length)
    (body : ∀ (cdv : Value) (A : Around) (fr : List Env) (s : Shared) (H : Hp) (vs : List V) (Q : VK) (E : XK), Shut (A.deeper (envOfC qual (defScope st) s.heap.objs.size f cdv)) → Room k (A.deeper (envOfC qual (defScope st) s.heap.objs.size f cdv)) → sp vs H Q E →
      ∃ t, PSs (cxOf CX P w K mg base N qual (defScope st) f cdv A fr s H E).nox (defBody st) t ∧ t { nx := fun _ H' => Q .non H', rt := Q } (start N vs) H) : FnG P w K mg base CX (k + 1) f fd ps sp :=
  okG F S len fun cdv A fr s H vs Q E sh hr h => let ⟨t, h1, h2⟩ := body cdv A fr s H vs Q E sh hr h; ⟨t, h1.nox, h2⟩

end

/-- the law's own call, over what the top has left -/
theorem law_callG {P : Program} {w : World} {K : PySem.W.Frag} {mg mb : Str → Option Value} {CX : CXT} {k : Nat} {fa a : Addr} {fd : FuncData} {x : Str} {sp : Sp} {s₁ : Shared} {vs : List Value} {ns : List Int}
    (KX : K.In s₁.heap) (hns : s₁.heap.Ns mainGlobals mg) (hb : s₁.heap.Ns builtinsNs mb) (hbb : ∀ x : Str, x ≠ "__name__" → mb x = bootBuiltins x) (hlim : s₁.heap.NoLimit) (hg : s₁.gens = #[])
    (ha : s₁.heap.get? a = some { cls := .type "list", data := .seq vs.toArray }) (hi : IntsAre vs ns) (hl : ns.length ≤ sizeLine) (hr : Room k callerA)
    (F : ∀ base : Heap, K.In base → base.Ns mainGlobals mg → FnG P w K mg base CX k fa fd [x] sp) (hbind : ∀ (s : Shared) (u : Value), BindsTo s fd ⟨[u], []⟩ [(x, u)])
    (hsp : ∀ H : Hp, Only H → SqL K H a (ns.map V.int) → sp [.ref a] H (fun v _ => v = .bl true) fun _ _ _ => False) (hCX : ∀ H e s', CX [] H s₁ (fun _ _ _ => False) e s' → False) :
    codeAny (model P w) callerA (.call (.ref fa) ⟨[.ref a], []⟩) (fun r s' => r = .ok (.ret (.bool true)) ∧ OldK s₁.heap s'.heap ∧ s'.os = s₁.os ∧ AllBare s'.gens) s₁ := by
  have rv := vals_ints hi
  have lenV := hi.length
  have core : ∀ H : Hp, Only H → SqL K H a (ns.map V.int) → HOk P w H s₁.heap → (∀ b, H b ≠ none → b = a) → (H a ≠ none → K.lookup a = none) →
      codeAny (model P w) callerA (.call (.ref fa) ⟨[.ref a], []⟩) (fun r s' => r = .ok (.ret (.bool true)) ∧ OldK s₁.heap s'.heap ∧ s'.os = s₁.os ∧ AllBare s'.gens) s₁ := by
    intro H hO hS hok hA hK
    have dictless : ∀ {b : Addr} {o : Obj} {es : Array DictEntry} {ep : Nat}, s₁.heap.get? b = some o → o.data = .dict es ep → H b = none := by
      intro b o es ep e d
      match q : H b with
      | none => rfl
      | some u =>
        have e' := hA b (by rw [q]; simp)
        subst e'
        rw [ha] at e
        cases e
        exact absurd d (by simp)
    have nsK : ∀ {b : Addr} {m : Str → Option Value}, s₁.heap.Ns b m → (hidT s₁.heap H).Ns b m := fun ⟨o, es, ep, e, d, r⟩ => ⟨o, es, ep, hidT_get e (dictless e d), d, r⟩
    have hKb : K.In (hidT s₁.heap H) := by
      intro b o e
      refine hidT_get (KX b o e) ?_
      match q : H b with
      | none => rfl
      | some u =>
        have e' := hA b (by rw [q]; simp)
        subst e'
        rw [hK (by rw [q]; simp)] at e
        cases e
    obtain ⟨mc, lim1, lim2⟩ := hlim
    have e0 : Env0 P w K mg (hidT s₁.heap H) callerA [] s₁ H :=
      ⟨rfl, ⟨hKb, nsK hns, ⟨mb, nsK hb, hbb⟩, ⟨mc, nsK lim1, lim2⟩⟩, fun _ _ e => of_hidT e, Nat.le_of_eq (hidT_size _ _), trivial, fun b z => absurd (show b ∈ ([] : List Addr) from z) (by simp), hok, .of_eq hg⟩
    refine codeAny_mono ((F _ hKb (nsK hns)).go callerA [] s₁ H ⟨[.ref a], []⟩ [.ref a] [.ref a] _ _ rfl hr e0 (hbind s₁ (.ref a)) (.cons rfl .nil) (hsp H hO hS)) fun r s' h => ?_
    match r, h with
    | .error e, h => exact (hCX H e s' h).elim
    | .ok (.ret u), ⟨v, H', os, bare, un, hok', r', q⟩ =>
      have q' : v = .bl true := q
      subst q'
      have eu : u = Value.bool true := r'
      subst eu
      refine ⟨rfl, OldK.of_keep fun b o e => ?_, os, bare⟩
      match q : H b with
      | none => exact un.keep b o e q (fun z => absurd (show b ∈ ([] : List Addr) from z) (by simp)) (by simp)
      | some u =>
        rcases hO b with z | ⟨ob, xs, z⟩
        · rw [q] at z
          cases z
        · have e1 := (hok b _ z).1
          have e2 := (hok' b _ (un.frzs b ob _ z)).1
          rw [e] at e1
          cases e1
          exact e2
  match hk : K.lookup a with
  | some o =>
    have e := KX a o hk
    rw [ha] at e
    cases e
    exact core (fun _ => none) (fun _ => .inl rfl) (.inr ⟨_, vs.toArray, _, hk, rfl, rfl, rfl, by rw [List.size_toArray, lenV]; exact hl, by simpa using rv⟩) (fun b u z => by have z' : (none : Option HO) = some u := z; cases z') (fun b z => absurd rfl z) fun z => absurd rfl z
  | none =>
    have at_a : ∀ b, b = a → (fun c => if c = a then some (HO.frz { cls := .type "list", data := .seq vs.toArray } (.lst (ns.map V.int))) else none : Hp) b = some (.frz { cls := .type "list", data := .seq vs.toArray } (.lst (ns.map V.int))) := fun b hb => if_pos hb
    have off_a : ∀ b, b ≠ a → (fun c => if c = a then some (HO.frz { cls := .type "list", data := .seq vs.toArray } (.lst (ns.map V.int))) else none : Hp) b = none := fun b hb => if_neg hb
    refine core (fun c => if c = a then some (HO.frz { cls := .type "list", data := .seq vs.toArray } (.lst (ns.map V.int))) else none) (fun b => ?_) (.inl (.inr ⟨_, at_a a rfl⟩)) (fun b u z => ?_) (fun b z => ?_) fun _ => hk
    · by_cases hb : b = a
      · exact .inr ⟨_, _, at_a b hb⟩
      · exact .inl (off_a b hb)
    · by_cases hb : b = a
      · rw [at_a b hb] at z
        cases z
        subst hb
        exact ⟨ha, by rw [List.length_map]; exact hl, vs, _, rv, ha⟩
      · rw [off_a b hb] at z
        cases z
    · by_cases hb : b = a
      · exact hb
      · exact absurd (off_a b hb) z
theorem walk_ofG {l : PySem.W.OpenLaw} {n k : Nat} {q : Program} {loose : List Str} {XP : (Str → Option Value) → Heap → Prop} {YP : World → Heap → Prop} {d : DefRec} {K : Params → PySem.W.Frag} {CX : World → CXT} {sp : World → Sp} {x : Str}
    (hn : l.most = some n) (hn2 : n ≤ sizeLine) (hdf : d.params.defaults = []) (hr : Room k callerA) (hY : ∀ (w : World) (h : Heap), YP w h → (K w.params).In h)
    (F : ∀ (w : World) (mg : Str → Option Value) (fa : Addr) (h : Heap), (K w.params).In h → h.Ns mainGlobals mg → mg d.name = some (.ref fa) →
      ∃ fd : FuncData, (∀ (s : Shared) (u : Value), BindsTo s fd ⟨[u], []⟩ [(x, u)]) ∧ ∀ base : Heap, (K w.params).In base → base.Ns mainGlobals mg → FnG l.prog w (K w.params) mg base (CX w) k fa fd [x] (sp w))
    (hsp : ∀ (w : World) (H : Hp) (a : Addr) (ns : List Int), ns.length ≤ n → Only H → SqL (K w.params) H a (ns.map V.int) → sp w [.ref a] H (fun v _ => v = .bl true) fun _ _ _ => False)
    (hCX : ∀ (w : World) (H : Hp) (s : Shared) (e : Value) (s' : Shared), CX w [] H s (fun _ _ _ => False) e s' → False) : PySem.W.WalkO q loose XP YP l.row.toRowW d [] (fun f vs => PySem.call f vs) := by
  refine Att.attach_call hn hdf ?_
  intro w s₀ s₁ mg mb fa o pm cd doc a vs ns G Y _ _ _ hmg hobj hints hlen hg
  obtain ⟨fd, hb, hF⟩ := F w mg fa _ (hY w _ Y) G.T.g hmg
  exact law_callG (hY w _ Y) G.T.g G.T.b G.T.builtins G.T.nolimit hg hobj hints (Nat.le_trans hlen hn2) hr hF hb (fun H hO hS => hsp w H a ns hlen hO hS) (hCX w · s₁ · ·)
/-! ### repr of data -/
def rRepr (K : PySem.W.Frag) : List V → Hp → VK → Prop := fun vs H Q => ∃ (x : V) (d : PyData), vs = [x] ∧ Dp K H x d ∧ isDisplay d = true ∧ d.showable = true ∧ d.hasDict = false ∧ d.depth ≤ 60 ∧ d.shown.length ≤ sizeLine ∧ Q (.str d.shown) H
section
variable {X : Cx}
theorem call_reprD (sh : Shut X.A) (hu : X.A.units + 64 < cLine) : CallR X (.builtin "repr") (rRepr X.K) := by
  intro pins s σ H vs us Q I r h
  obtain ⟨x, d, rfl, hd, di, sw, nd, dep, len, q⟩ := h
  obtain ⟨u, rfl, rx⟩ := vals1 r
  obtain ⟨as, r1⟩ := Dp.reads I d x u hd rx
  obtain ⟨a, rfl⟩ := isRef_of_reads r1 di
  exact repr_of_reads' r1 sw (PyData.noDict_hsm nd) sh (by omega) (fun _ _ e => e) (fun h' u tk hk => ⟨.str d.shown, H, I.kept hk, ⟨u, rfl⟩, q⟩) len
end
end HG
/-! Own short words. -/
namespace HB
open PySem PySem.Spec PyProof.Rows L2
/-- a def of the top, bound under its name -/
structure Df (K : PySem.W.Frag) (mg : Str → Option Value) (nm qual : Str) (st : Stmt) (ps : List Str) (f : Addr) (fd : FuncData) : Prop where
  F : Fun K nm qual st f fd
  b : L2.Binds K fd ps []
  g : mg nm = some (.ref f)
section
variable {X : Cx} {k : Nat} {f : Addr} {fd : FuncData} {ps : List Str} {sp : Sp} {x qual : Str} {st : Stmt} {p pos : Pos} {e : Expr} {es : List Expr} {t : TA}
theorem pcall (D : Df X.K X.mg x qual st ps f fd) (G : FnOk X.prog X.w X.K X.mg X.base CX0 k f fd ps sp) (hr : Room k X.A) (hg : Gl X x) (ha : PA X (e :: es) t) (hdb : (x == ("__debug__" : Str)) = false := by decide)
    (he : starEach (e :: es) X.env = (false, eval e X.env) :: starEach es X.env := by rfl) (hpl : (backTo pos (starEach es X.env)).any (·.1) = false := by rfl) : PE X (.Call (.Name x p) (e :: es) [] pos) (tCall sp [] E0 t) :=
  pe_call G hr hg D.g D.F.kp D.b .nil pass0 ha hdb he hpl
theorem pcall0 (D : Df X.K X.mg x qual st ps f fd) (G : FnOk X.prog X.w X.K X.mg X.base CX0 k f fd ps sp) (hr : Room k X.A) (hg : Gl X x) (hdb : (x == ("__debug__" : Str)) = false := by decide) : PE X (.Call (.Name x p) [] [] pos) (tCall sp [] E0 tNil) :=
  pe_call0 G hr hg D.g D.F.kp D.b .nil pass0 hdb
theorem gcall (D : Df X.K X.mg x qual st ps f fd) (G : HG.FnG X.prog X.w X.K X.mg X.base CX0 k f fd ps sp) (sh : HG.Shut X.A) (hr : Room k X.A) (hg : Gl X x) (ha : PA X (e :: es) t) (hdb : (x == ("__debug__" : Str)) = false := by decide)
    (he : starEach (e :: es) X.env = (false, eval e X.env) :: starEach es X.env := by rfl) (hpl : (backTo pos (starEach es X.env)).any (·.1) = false := by rfl) : PE X (.Call (.Name x p) (e :: es) [] pos) (tCall sp [] E0 t) :=
  HG.pe_callG G sh hr hg D.g D.F.kp D.b .nil pass0 ha hdb he hpl
/-- a written text or number of the module -/
theorem pe_gs {z : Str} (hg : Gl X x) (hm : ∃ t : Tok, X.mg x = some (.str z t)) (hdb : (x == ("__debug__" : Str)) = false := by decide) : PE X (.Name x pos) (tC (.str z)) := let ⟨t, h⟩ := hm; pe_glob hg h ⟨t, rfl⟩ (hd := hdb)
theorem pe_gi {i : Int} (hg : Gl X x) (hm : ∃ t : Tok, X.mg x = some (.int i t)) (hdb : (x == ("__debug__" : Str)) = false := by decide) : PE X (.Name x pos) (tC (.int i)) := let ⟨t, h⟩ := hm; pe_glob hg h ⟨t, rfl⟩ (hd := hdb)
theorem pe_gr {a : Addr} (hg : Gl X x) (hm : X.mg x = some (.ref a)) (hdb : (x == ("__debug__" : Str)) = false := by decide) : PE X (.Name x pos) (tC (.ref a)) := pe_glob hg hm rfl (hd := hdb)
end
/-! ### heaps -/
theorem same_upd {H : Hp} {p : Addr} {o : HO} (h : H p = none) : Same H (upd H p o) := fun b x e => by
  rw [upd_ne (ne_of_none e h)]
  exact e
theorem _root_.L2.Same.sqt {K : PySem.W.Frag} {H H' : Hp} {a : Addr} {xs : List V} (e : Same H H') (h : SqT K H a xs) : SqT K H' a xs := Evl.ex_t e h
theorem _root_.L2.Same.own {H H' : Hp} {D : Addr} {o : HO} (e : Same H H') (n : H D = none) : Same H (upd H' D o) := fun b x hb => by
  rw [upd_ne (ne_of_none hb n)]
  exact e _ _ hb
theorem sl {K : PySem.W.Frag} {H : Hp} {a : Addr} {xs : List V} (h : H a = some (.lst xs)) : SqL K H a xs := .inl (.inl h)
theorem stt {K : PySem.W.Frag} {H : Hp} {a : Addr} {xs : List V} (h : H a = some (.tup xs)) : SqT K H a xs := .inl (.inl h)
theorem ite1 {b : Bool} {A B : Prop} (e : b = true) (h : A) : if b = true then A else B := by rw [if_pos e]; exact h
theorem ite0 {b : Bool} {A B : Prop} (e : b = false) (h : B) : if b = true then A else B := by rw [if_neg (by rw [e]; decide)]; exact h
mutual
theorem _root_.L2.Same.dp {K : PySem.W.Frag} {H H' : Hp} (e : Same H H') : ∀ {v : V} {d : PyData}, Dp K H v d → Dp K H' v d
  | _, _, .non => .non
  | _, _, .bl b => .bl b
  | _, _, .int i => .int i
  | _, _, .str x => .str x
  | _, _, .lst h k => .lst (e.seq h) (L2.Same.dpAll e k)
  | _, _, .tup h k => .tup (L2.Same.sqt e h) (L2.Same.dpAll e k)
theorem _root_.L2.Same.dpAll {K : PySem.W.Frag} {H H' : Hp} (e : Same H H') : ∀ {vs : List V} {ds : List PyData}, DpAll K H vs ds → DpAll K H' vs ds
  | _, _, .nil => .nil
  | _, _, .cons h k => .cons (L2.Same.dp e h) (L2.Same.dpAll e k)
end
/-! ### a def that calls itself: by the depth -/
section
variable {P : Program} {w : World} {K : PySem.W.Frag} {mg : Str → Option Value} {base : Heap} {CX : CXT} {f : Addr} {fd : FuncData} {ps : List Str}
def spR (sp : Nat → Sp) : Nat → Sp
  | 0 => fun _ _ _ _ => False
  | n + 1 => sp n
theorem rec_fn {sp : Nat → Sp} {c : Nat} (step : ∀ n, FnOk P w K mg base CX (n + c) f fd ps (spR sp n) → FnOk P w K mg base CX (n + c + 1) f fd ps (sp n)) : ∀ n, FnOk P w K mg base CX (n + c + 1) f fd ps (sp n)
  | 0 => step 0 ⟨fun _ _ _ _ h => h.elim, fun _ _ _ _ _ _ _ _ _ _ _ _ _ h => h.elim⟩
  | n + 1 => step (n + 1) (by
    have h := rec_fn step n
    rwa [show n + c + 1 = n + 1 + c by omega] at h)
end
end HB
namespace HX
open PySem PySem.Spec PySem.Calls PyProof.Rows L2
/-- d.update(e) of another dict -/
def tDUpd (td te : TE) : TE := fun σ H Q => td σ H fun x H1 => ∃ a, x = .ref a ∧ IsD H1 a ∧ te σ H1 fun y H2 => ∃ (b : Addr) (kvs more : List (Key × V)), y = .ref b ∧ a ≠ b ∧ H2 a = some (.dK kvs) ∧ H2 b = some (.dK more) ∧
  kvs.length + more.length ≤ sizeLine ∧ Q .non (upd H2 a (.dK (mergeK kvs more)))
section
variable {X : Cx} {o e : Expr} {td te : TE} {apos cpos : Pos}
theorem pe_dupd (ho : PE X o td) (he : PE X e te) (m : M1 X o "update" apos e cpos) : PE X (.Call (.Attribute o "update" apos) [e] [] cpos) (tDUpd td te) := by
  refine ⟨fun pins s σ H Q I h => ?_⟩
  refine wpAny_Call_method m.base m.few m.line PySem.F.plainAttrs_dict PySem.F.slot_dict_update PySem.F.type_dict_update (thn (ho.run pins s σ H _ I h) fun u s1 ⟨x, H1, I1, rx, a, ex, d, q1⟩ => ?_)
  subst ex
  obtain rfl : u = Value.ref a := rx
  obtain ⟨t1, t2, _⟩ := isD_at I1 d
  refine ⟨t1, t2, ?_⟩
  rw [m.trees]
  refine Calls.callWith_builtin rfl (Calls.evalArgs_plain (Calls.spliced_cons (thn (he.run pins s1 σ H1 _ I1 q1) fun iv s2 ⟨y, H2, I2, ry, b, kvs, more, ey, hab, ea, eb, hl, q⟩ => Calls.spliced_nil ?_)))
  subst ey
  obtain rfl : iv = Value.ref b := ry
  obtain ⟨za, ya, vs, rel, da⟩ := dk_of I2.hok ea
  obtain ⟨zb, yb, us, rel2, db⟩ := dk_of I2.hok eb
  have e1 := rel.length
  have e2 := rel2.length
  refine call_meetsIn PySem.F.slot_dict_update da.typeIs PySem.F.entry_dict_update (PySem.F.args_dict_update_2 _ _) (meets_dict_update (mixKind X.prog X.w) a b hab yb)
    ⟨vs, us, da, db, by omega, fun h' dd' _ hs => ?_⟩
  have hl2 : (mergeK kvs more).length ≤ sizeLine := Nat.le_trans (length_mergeK more kvs) hl
  have hex : ∃ q, h'.get? a = some q := let ⟨q, _, _, hq, _⟩ := dd'; ⟨q, hq⟩
  exact ⟨.non, _, d_write (t' := s2.toks) I2 (by rw [ea]; exact True.intro) hs hex (dk_new hl2 ya (KV.merge rel2 rel) dd'), rfl, q⟩
end
end HX
/-! sum(lists, []) -/
namespace HX
open PySem PySem.Spec PySem.Calls PyProof.Rows L2
open Sem (wp)
abbrev lo (its : List Value) (n : Nat) : Obj := { cls := .type "list", data := .seq its.toArray n }
section
variable {prog : Program} {w : World} {A : Around} {R : Result → Shared → Prop}
/-- the places of lists, and what they hold -/
inductive Lists (h : Heap) : List Addr → List (List Value) → Prop
  | nil : Lists h [] []
  | cons {b : Addr} {its : List Value} {n : Nat} {bs : List Addr} {xs : List (List Value)} : h.get? b = some (lo its n) → Lists h bs xs → Lists h (b :: bs) (its :: xs)
theorem Lists.keeps {h h' : Heap} {bs : List Addr} {xs : List (List Value)} (L : Lists h bs xs) (k : ∀ b o, b ∈ bs → h.get? b = some o → h'.get? b = some o) : Lists h' bs xs := by
  induction L with
  | nil => exact .nil
  | cons e _ ih => exact .cons (k _ _ (List.mem_cons_self ..) e) (ih fun b o hb => k b o (List.mem_cons_of_mem _ hb))
theorem sum_loop (hh : A.handled = none) (I l S : Addr) (all : List Addr) (hIl : l ≠ I) (hSI : S ≠ I) (hSl : S ≠ l) :
    ∀ (bs : List Addr) (xs : List (List Value)) (pre : List Addr) (s : Shared) (T : Addr) (acc : List Value) (m c : Nat) (N : Nat), all = pre ++ bs → N ≤ s.heap.objs.size → I ∉ bs → S ∉ bs →
      s.heap.IsListIter I l pre.length → s.heap.IsList l (all.map Value.ref).toArray → Lists s.heap bs xs → s.heap.get? S = some { cls := .type "list", dict := none, data := .seq #[.ref T] c, slots := #[] } → s.heap.get? T = some (lo acc m) →
      T ≠ S → T ≠ I → (acc ++ xs.flatten).length ≤ sizeLine →
      (∀ (h' : Heap) (T' : Addr) (m' : Nat), (∀ b o, b ≠ I → b ≠ S → s.heap.get? b = some o → h'.get? b = some o) → ((bs = [] ∧ T' = T) ∨ N ≤ T') → h'.get? T' = some (lo (acc ++ xs.flatten) m') → R (.ok (.ret (.ref T'))) { s with heap := h' }) →
      codeAny (model prog w) A (.builtin "sum.loop" ⟨[.ref I, .ref S, rawInt 2, rawInt 0], []⟩) R s := by
  intro bs
  induction bs with
  | nil =>
    intro xs pre s T acc m c N hall hN hI hS hit hl hL hSo hTo hTS hTI hz hR
    cases hL
    refine codeAny_builtin F.entry_sum_loop ?_
    rw [Around.under_plainId F.plain_sum_loop _]
    show wpAny _ A.in1 (seqItems? (.ref S) >>= _) _ _ s
    refine wpAny_bind (wpAny_seqItems hSo rfl ?_)
    show wpAny _ A.in1 (tryCatch (pyNext (.ref I)) _ >>= _) _ _ s
    refine wpAny_bind (wpAny_tryCatch (wpAny_pyNext_list_end hh hit hl (by rw [hall]; simp) fun h' he => ?_))
    refine wpAny_pure (hR h' T m (fun b o hb _ e => he b o hb e) (.inl ⟨rfl, rfl⟩) ?_)
    simpa using he T _ hTI hTo
  | cons b bs ih =>
    intro xs pre s T acc m c N hall hN hI hS hit hl hL hSo hTo hTS hTI hz hR
    cases hL with
    | cons hb hL =>
    rename_i its n xs
    refine codeAny_builtin F.entry_sum_loop ?_
    rw [Around.under_plainId F.plain_sum_loop _]
    show wpAny _ A.in1 (seqItems? (.ref S) >>= _) _ _ s
    refine wpAny_bind (wpAny_seqItems hSo rfl ?_)
    show wpAny _ A.in1 (tryCatch (pyNext (.ref I)) _ >>= _) _ _ s
    refine wpAny_bind (wpAny_tryCatch (wpAny_pyNext_list_item hit hl (x := .ref b) (by rw [hall]; simp) fun h' hit' hs' => ?_))
    have bI : b ≠ I := fun z => hI (by rw [z]; exact List.mem_cons_self ..)
    have bS : b ≠ S := fun z => hS (by rw [z]; exact List.mem_cons_self ..)
    have hI' : I ∉ bs := fun z => hI (List.mem_cons_of_mem _ z)
    have hS' : S ∉ bs := fun z => hS (List.mem_cons_of_mem _ z)
    have eT : h'.get? T = some (lo acc m) := (hs'.2 T hTI).trans hTo
    have eb : h'.get? b = some (lo its n) := (hs'.2 b bI).trans hb
    have eS := (hs'.2 S hSI).trans hSo
    have size1 : (acc ++ its).length ≤ sizeLine := by
      simp only [List.flatten_cons, List.length_append] at hz ⊢
      omega
    show wpAny _ A.in1 ((holding [Value.ref b] (binaryOp .Add (.ref T) (.ref b))).attempt >>= _) _ _ _
    refine wpAny_bind (wpAny_attempt (wpAny_holding (PySem.P.add_list eT eb ?_ (by rw [List.size_toArray, List.size_toArray, ← List.length_append]; exact size1))))
    have ea : acc.toArray ++ its.toArray = (acc ++ its).toArray := by simp
    rw [ea]
    have eS2 : (h'.push (lo (acc ++ its) 0)).get? S = some { cls := .type "list", dict := none, data := .seq #[.ref T] c, slots := #[] } := Heap.get?_push_of_some _ eS
    show wpAny _ A.in1 (updateSeq S (fun _ => #[.ref h'.objs.size]) >>= _) _ _ _
    refine wpAny_bind (wpAny_updateSeq eS2 rfl ?_)
    refine wpAny_bind (wpAny_letGo ?_)
    have T1 : h'.objs.size ≠ S := Ne.symm (Nat.ne_of_lt (Heap.lt_size eS))
    have T2 : h'.objs.size ≠ I := Ne.symm (Nat.ne_of_lt (by obtain ⟨_, e, _⟩ := hit'; exact Heap.lt_size e))
    have eS3 := Heap.get?_update_self (Obj.mapSeq fun _ => #[Value.ref h'.objs.size]) eS2 rfl
    have kept : ∀ b o, b ≠ S → h'.get? b = some o → (((h'.push (lo (acc ++ its) 0)).update S (Obj.mapSeq fun _ => #[Value.ref h'.objs.size])).update S (Obj.mapSeq fun _ => #[Value.ref h'.objs.size])).get? b = some o := fun b o h1 e =>
      (Heap.get?_update_other _ _ (Ne.symm h1)).trans ((Heap.get?_update_other _ _ (Ne.symm h1)).trans (Heap.get?_push_of_some _ e))
    show wpAny _ A.in1 (updateSeq S (fun _ => #[.ref h'.objs.size]) >>= _) _ _ _
    refine wpAny_bind (wpAny_updateSeq eS3 rfl ?_)
    refine wpAny_pure ⟨plainId_quiet F.plain_sum_loop _, ih xs (pre ++ [b]) _ h'.objs.size (acc ++ its) 0 _ N (by rw [hall]; simp) ?_ hI' hS' ?_ ?_ ?_ (Heap.get?_update_self _ eS3 rfl) ?_ T1 T2 (by simpa using hz) ?_⟩
    · rw [Heap.size_update, Heap.size_update, Heap.size_push, hs'.1]; omega
    · rw [List.length_append]
      exact hit'.at fun o e => kept _ _ (Ne.symm hSI) e
    · exact hl.at fun o e => kept _ _ (Ne.symm hSl) ((hs'.2 l hIl).trans e)
    · exact hL.keeps fun b o hb e => kept _ _ (fun z => hS' (z ▸ hb)) ((hs'.2 b (fun z => hI' (z ▸ hb))).trans e)
    · exact (Heap.get?_update_other _ _ (Ne.symm T1)).trans ((Heap.get?_update_other _ _ (Ne.symm T1)).trans (Heap.get?_push_size _ rfl))
    · intro h2 T' m' k hN' e
      refine hR h2 T' m' (fun b o h1 h3 eo => k b o h1 h3 (kept b o h3 ((hs'.2 b h1).trans eo))) (.inr ?_) (by simpa using e)
      rcases hN' with ⟨_, rfl⟩ | hN'
      · rw [hs'.1]; exact hN
      · exact hN'
end
theorem args_sum2 (a b : Value) : argsOk "sum" ⟨[a, b], []⟩ := by unfold argsOk; kernel_rfl
section
variable {X : Cx}
theorem vals_refs : ∀ {bs : List Addr} {us : List Value}, Vals (bs.map V.ref) us → us = bs.map Value.ref := fun h => refs_at h
/-- sum(lists, z): some new list -/
def rSumL (K : PySem.W.Frag) : List V → Hp → VK → Prop := fun vs H Q => ∃ (l z : Addr) (bs : List Addr) (xss : List (List V)), vs = [.ref l, .ref z] ∧ H l = some (.lst (bs.map V.ref)) ∧ H z = some (.lst []) ∧ bs ≠ [] ∧
  Paired (fun b xs => H b = some (.lst xs)) bs xss ∧ xss.flatten.length ≤ sizeLine ∧ ∀ p, H p = none → Q (.ref p) (upd H p (.lst xss.flatten))
theorem lists_of {P : Program} {w : World} {H : Hp} {h : Heap} (ok : HOk P w H h) : ∀ {bs : List Addr} {xss : List (List V)}, Paired (fun b xs => H b = some (.lst xs)) bs xss → ∃ its : List (List Value), Lists h bs its ∧ Vals xss.flatten its.flatten
  | _, _, .nil => ⟨[], .nil, .nil⟩
  | _, _, .cons e t => by
    obtain ⟨its, L, r⟩ := lists_of ok t
    obtain ⟨_, it, n, rv, eo⟩ := ok _ _ e
    exact ⟨it :: its, .cons eo L, by rw [List.flatten_cons, List.flatten_cons]; exact rv.append r⟩
theorem call_sumL (hcalm : X.calm = true) : CallR X (.builtin "sum") (rSumL X.K) := by
  intro pins s σ H vs us Q I r h
  obtain ⟨l, z, bs, xss, rfl, hl, hz, hne, hp, hsz, q⟩ := h
  obtain ⟨u1, u2, rfl, r1, r2⟩ := vals2 r
  cases r1
  cases r2
  obtain ⟨_, it, n, rv, hll, el⟩ := I.lstM hl
  obtain ⟨_, itz, nz, rz, hlz, ez⟩ := I.lstM hz
  have e1 := refs_at rv
  subst e1
  cases rz
  obtain ⟨its, L, rvs⟩ := lists_of I.hok hp
  refine call_function_tree F.kind_sum F.plain_sum F.entry_sum (args_sum2 _ _) ?_
  unfold Builtin.«sum»
  simp only [List.length_cons, List.length_nil]
  rw [if_neg (by decide)]
  refine wpAny_bind (wpAny_of_eq (show Builtin.Builtins.bindParams "sum" ["start"] 0 ⟨[.ref z], []⟩ = pure [some (.ref z)] from rfl) ?_)
  have hL : s.heap.IsList l (bs.map Value.ref).toArray := ⟨_, el, rfl, n, rfl⟩
  refine wpAny_bind (wpAny_pyIter_list hL ?_)
  refine wpAny_bind (wpAny_pure ?_)
  simp only [List.forIn_cons, List.forIn_nil]
  have ez2 : ({ s with heap := s.heap.push { cls := .type "list_iterator", data := .fields #[.ref l, .int 0 0] } } : Shared).TypeIs (.ref z) "list" := ⟨_, Heap.get?_push_of_some _ ez, rfl⟩
  refine wpAny_bind (wpAny_bind (wpAny_bind (wpAny_isInstance (T := "list") (b := false) ez2 F.sub_list_str ?_)))
  simp only [Bool.false_eq_true, if_false]
  refine wpAny_pure (wpAny_bind (wpAny_bind (wpAny_isInstance (T := "list") (b := false) ez2 F.sub_list_bytes ?_)))
  simp only [Bool.false_eq_true, if_false]
  refine wpAny_pure (wpAny_bind (wpAny_bind (wpAny_isInstance (T := "list") (b := false) ez2 F.sub_list_bytearray ?_)))
  simp only [Bool.false_eq_true, if_false]
  refine wpAny_pure (wpAny_pure ?_)
  refine wpAny_bind (wpAny_newObj_type ?_)
  have zl : z < s.heap.objs.size := Heap.lt_size ez
  have ll : l < s.heap.objs.size := Heap.lt_size el
  have sz1 : (s.heap.push { cls := .type "list_iterator", data := .fields #[.ref l, .int 0 0] }).objs.size = s.heap.objs.size + 1 := Heap.size_push ..
  have bl : ∀ b ∈ bs, b < s.heap.objs.size := fun b hb => by
    have : ∀ {cs : List Addr} {ys : List (List Value)}, Lists s.heap cs ys → ∀ c ∈ cs, c < s.heap.objs.size := fun {cs ys} L => by
      induction L with
      | nil => intro c hc; cases hc
      | cons e _ ih =>
        intro c hc
        rcases List.mem_cons.mp hc with rfl | hc
        · exact Heap.lt_size e
        · exact ih c hc
    exact this L b hb
  refine wpAny_pure ⟨plainId_quiet F.plain_sum_loop _, ?_⟩
  dsimp only
  rw [sz1]
  refine sum_loop (I.ok.hd hcalm) s.heap.objs.size l (s.heap.objs.size + 1) bs (Nat.ne_of_lt ll) (Nat.succ_ne_self _) (Nat.ne_of_lt (Nat.lt_succ_of_lt ll)).symm bs its [] _ z [] nz 0 s.heap.objs.size rfl ?_ (fun hb => Nat.lt_irrefl _ (bl _ hb)) (fun hb => Nat.lt_irrefl _ (Nat.lt_trans (Nat.lt_succ_self _) (bl _ hb))) ?_ ?_ ?_ ?_ ?_ (Nat.ne_of_lt (Nat.lt_succ_of_lt zl)) (Nat.ne_of_lt zl) ?_ ?_
  · show s.heap.objs.size ≤ ((s.heap.push _).push _).objs.size
    rw [Heap.size_push, sz1]
    exact Nat.le_trans (Nat.le_succ _) (Nat.le_succ _)
  · exact ⟨_, Heap.get?_push_of_some _ (Heap.get?_push_size _ rfl), rfl, rfl⟩
  · exact hL.at fun o e => Heap.get?_push_of_some _ (Heap.get?_push_of_some _ e)
  · exact L.keeps fun b o _ e => Heap.get?_push_of_some _ (Heap.get?_push_of_some _ e)
  · have := Heap.get?_push_size (s.heap.push { cls := .type "list_iterator", data := .fields #[.ref l, .int 0 0] }) (o := { cls := .type "list", data := .seq #[.ref z] }) rfl
    rwa [sz1] at this
  · exact Heap.get?_push_of_some _ (Heap.get?_push_of_some _ ez)
  · rw [List.nil_append, ← rvs.length]; exact hsz
  · intro h' T' m' k hN e
    rcases hN with ⟨z, _⟩ | hN
    · exact absurd z hne
    · rw [List.nil_append] at e
      refine ⟨.ref T', upd H T' (.lst xss.flatten), I.laid (t' := s.toks) (fun b u eb => k b u (Nat.ne_of_lt (Heap.lt_size eb)) (Nat.ne_of_lt (Nat.lt_succ_of_lt (Heap.lt_size eb))) (Heap.get?_push_of_some _ (Heap.get?_push_of_some _ eb))) hN ⟨hsz, its.flatten, m', rvs, e⟩, rfl, q _ (I.hok.fresh hN)⟩
end
end HX
/-! draws kept in a list of three ints; what stands beside them -/
namespace HU
open PySem PySem.Spec PyProof.Rows L2 HB TL
abbrev dr (x y z : Int) : HO := .lst [.int x, .int y, .int z]
/-- the draws stand at d, n of them drawn at most -/
def DL (H : Hp) (d : Addr) (n : Nat) : Prop := ∃ x y z : Int, H d = some (dr x y z) ∧ 0 ≤ z ∧ z ≤ n
/-- all but d stand -/
def U1 (d : Addr) (H H' : Hp) : Prop := ∀ b o, H b = some o → b ≠ d → H' b = some o
section
variable {d : Addr} {H H' H'' : Hp} {K : PySem.W.Frag} {n m : Nat}
theorem U1.refl (H : Hp) : U1 d H H := fun _ _ h _ => h
theorem U1.trans (a : U1 d H H') (b : U1 d H' H'') : U1 d H H'' := fun x o h h1 => b x o (a x o h h1) h1
theorem U1.of (s : Same H H') : U1 d H H' := fun b o h _ => s b o h
theorem U1.set (u : U1 d H H') {o : HO} : U1 d H (upd H' d o) := fun x y h h1 => by
  rw [upd_ne h1]
  exact u x y h h1
theorem U1.own (u : U1 d H H') {b : Addr} {o : HO} (n : H b = none) : U1 d H (upd H' b o) := fun x y h h1 => by
  rw [upd_ne (ne_of_none h n)]
  exact u x y h h1
theorem DL.same (D : DL H d n) (s : Same H H') : DL H' d n := let ⟨x, y, z, h, r⟩ := D; ⟨x, y, z, s _ _ h, r⟩
theorem DL.mono (D : DL H d n) (h : n ≤ m) : DL H d m := let ⟨x, y, z, h1, h2, h3⟩ := D; ⟨x, y, z, h1, h2, by omega⟩
theorem DL.set (D : DL H d n) {b : Addr} {o : HO} (hb : b ≠ d) : DL (upd H b o) d n := let ⟨x, y, z, h, r⟩ := D; ⟨x, y, z, by rw [upd_ne hb.symm]; exact h, r⟩
theorem DL.apart (D : DL H d n) {b : Addr} (h : H b = none) : b ≠ d := let ⟨_, _, _, h1, _⟩ := D; (ne_of_none h1 h).symm
theorem DL.ne (D : DL H d n) {b : Addr} {o : HO} (h : H b = some o) (ho : ∀ xs, o ≠ .lst xs) : b ≠ d := by
  rintro rfl
  obtain ⟨x, y, z, h1, _⟩ := D
  rw [h] at h1
  exact ho _ (Option.some.inj h1)
/-- tuples stand -/
theorem U1.sqt (u : U1 d H H') (D : DL H d n) {a : Addr} {xs : List V} (h : SqT K H a xs) : SqT K H' a xs := by
  rcases h with (h | ⟨o, h⟩) | h
  · exact .inl (.inl (u _ _ h (D.ne h fun _ z => by cases z)))
  · exact .inl (.inr ⟨o, u _ _ h (D.ne h fun _ z => by cases z)⟩)
  · exact .inr h
theorem U1.frz (u : U1 d H H') (D : DL H d n) {a : Addr} {o : Obj} {x : HO} (h : H a = some (.frz o x)) : H' a = some (.frz o x) := u _ _ h (D.ne h fun _ z => by cases z)
theorem U1.dk (u : U1 d H H') (D : DL H d n) {a : Addr} {kvs : List (Key × V)} (h : H a = some (.dK kvs)) : H' a = some (.dK kvs) := u _ _ h (D.ne h fun _ z => by cases z)
theorem U1.sql (u : U1 d H H') {a : Addr} {xs : List V} (hn : a ≠ d) (h : SqL K H a xs) : SqL K H' a xs := by
  rcases h with (h | ⟨o, h⟩) | h
  · exact .inl (.inl (u _ _ h hn))
  · exact .inl (.inr ⟨o, u _ _ h hn⟩)
  · exact .inr h
/-- a list apart from the draws: it is kept or it is another one -/
theorem sql_apart {a : Addr} {xs : List V} (h : SqL K H a xs) (D : DL H d n) (hx : ∀ x y z : Int, xs ≠ [.int x, .int y, .int z]) (hk : ∀ o, H a = some o → a ≠ d ∨ (∃ ys, o = .lst ys)) : (∀ o, SqL K (upd H d o) a xs) := by
  intro o
  rcases h with (h | ⟨q, h⟩) | h
  · by_cases e : a = d
    · subst e
      obtain ⟨x, y, z, h1, _⟩ := D
      rw [h] at h1
      exact absurd (HO.lst.inj (Option.some.inj h1)) (hx x y z)
    · exact .inl (.inl (by rw [upd_ne e]; exact h))
  · exact .inl (.inr ⟨q, by rw [upd_ne (D.ne h fun _ z => by cases z)]; exact h⟩)
  · exact .inr h
end
def sg (c : Nat) : Str := ⟨#[c]⟩
theorem joinL_sg : ∀ cs : List Nat, joinL [] (cs.map fun c => [c]) = cs
  | [] => rfl
  | [c] => rfl
  | c :: d :: r => by
    have ih := joinL_sg (d :: r)
    show [c] ++ [] ++ joinL [] ((d :: r).map fun c => [c]) = _
    rw [ih]
    rfl
theorem join_sg (cs : List Nat) : (Txt.join Str.empty (cs.map sg)).cps.toList = cs := by
  have h := tl_join Str.empty (cs.map sg)
  rw [← join_eq, List.map_map] at h
  exact h.trans (joinL_sg cs)
/-- what is picked from -/
def Pickd (K : PySem.W.Frag) (H : Hp) (x : V) (ys : List V) : Prop := (∃ l, x = .ref l ∧ SqL K H l ys) ∨ (∃ t, x = .ref t ∧ SqT K H t ys) ∨ ∃ z : Str, x = .str z ∧ z.length ≤ 100000 ∧ ys = z.cps.toList.map fun c => V.str (sg c)
/-! ### the law's list -/
theorem script_or {K : PySem.W.Frag} {a : Addr} {ns : List Int} {σ : L2.St} {H : Hp} {Q : VK} (h0 : σ[0]? = some (some (.ref a))) (hS : SqL K H a (ns.map V.int)) (hl : ns.length ≤ 63) (h : ∀ (b : Addr) (ms : List Int) (H1 : Hp), Same H H1 → SqL K H1 b (ms.map V.int) → ms.length ≤ 63 → Q (.ref b) H1) :
    tOrT K (tVar 0) (tLst (tCons (tC (.int 5)) tNil)) σ H Q := by
  refine ⟨_, h0, !(ns.map V.int).isEmpty, .inl ⟨_, hS, rfl⟩, ite2 (fun _ => h a ns H (Same.refl H) hS hl) fun _ => ⟨(by show 1 ≤ sizeLine; decide), fun p hp => h p [5] _ (same_upd hp) (.inl (.inl upd_same)) (by decide)⟩⟩
theorem cut_to (xs : List V) (n : Nat) : cutV xs none (some (n : Int)) = xs.take n := by
  unfold cutV
  rw [HT.sIx_none, HT.sIx_nat, List.drop_zero, Nat.sub_zero, List.take_eq_take_iff]
  omega
theorem cut_ints (ms : List Int) (n : Nat) : ∃ cs : List Int, cutV (ms.map V.int) none (some (n : Int)) = cs.map V.int ∧ cs.length ≤ n := by
  refine ⟨ms.take n, ?_, List.length_take_le _ _⟩
  unfold cutV
  rw [HT.sIx_none, HT.sIx_nat, List.length_map, List.drop_zero, List.map_take, Nat.sub_zero, List.take_eq_take_iff]
  simp only [List.length_map]
  omega
end HU
/-! the head with facts: defs, names, dicts of the top with text keys, and further tests of one's own (ex) -/
namespace HH
open PySem PySem.Spec PyProof.Rows L2 He
abbrev Ex : Type := PySem.W.Frag → Bool
abbrev AlX : Type := Bool × List FnW × List (Option (List (Option (Str × Int))))
def obsX (fa : List Fa) (fn : List DefD) (ex : List Ex) (ts : List Tab) (K : PySem.W.Frag) : AlX := ((fa.all fun f => f.ok K) && ((fn.all fun d => d.ok K) && ex.all fun e => e K), fn.map (fun d => fnW K d.at_), ts.map fun t => dicW K (t.1 K))
def valX (fn : List DefD) (ts : List Tab) (w : World) : AlX := (true, fn.map DefD.val, ts.map fun t => some (keysIn w.params t.2))
def SaysX (fa : List Fa) (fn : List DefD) (ex : List Ex) (ts : List Tab) (w : World) (K : PySem.W.Frag) : Prop := obsX fa fn ex ts K = valX fn ts w
def obsXG (n : Nat) (fa : List Fa) (fn : List DefD) (ex : List Ex) (ts : List Tab) (g : Addr → Option Obj) : AlX := obsX fa fn ex ts (frG g (PySem.sysModules :: PySem.cStatics :: asD g n))
def hookX (n : Nat) (fa : List Fa) (fn : List DefD) (ex : List Ex) (ts : List Tab) : PySem.W.Hook where
  α := AlX
  obs := fun s => obsXG n fa fn ex ts s.heap.get?
  val := fun w => valX fn ts w
  says := fun w h => ∃ K : PySem.W.Frag, K.In h ∧ SaysX fa fn ex ts w K
  of := fun _ _ e => ⟨_, frG_in, e⟩
  keeps := fun _ _ _ ⟨K, hK, c⟩ k => ⟨K, PySem.W.Frag.In.keeps hK k, c⟩
theorem obsXG_eq {n : Nat} {fa : List Fa} {fn : List DefD} {ex : List Ex} {ts : List Tab} {g : Addr → Option Obj} {s : Shared} (h : ∀ a, g a = s.heap.get? a) : obsXG n fa fn ex ts g = (hookX n fa fn ex ts).obs s := by
  have e : g = s.heap.get? := funext h
  rw [e] <;> rfl
section
variable {fa : List Fa} {fn : List DefD} {ex : List Ex} {ts : List Tab} {w : World} {K : PySem.W.Frag}
theorem SaysX.parts (c : SaysX fa fn ex ts w K) : (fa.all fun f => f.ok K) = true ∧ (fn.all fun d => d.ok K) = true ∧ (ex.all fun e => e K) = true := by
  have c1 := ba (show ((fa.all fun f => f.ok K) && ((fn.all fun d => d.ok K) && ex.all fun e => e K)) = true from congrArg (fun z : AlX => z.1) c)
  exact ⟨c1.1, ba c1.2⟩
theorem SaysX.fact (c : SaysX fa fn ex ts w K) (i : Nat) {f : Fa} (h : fa[i]? = some f := by rfl) : f.ok K = true := List.all_eq_true.mp c.parts.1 f (List.mem_of_getElem? h)
theorem SaysX.ex_ (c : SaysX fa fn ex ts w K) (i : Nat) {e : Ex} (h : ex[i]? = some e := by rfl) : e K = true := List.all_eq_true.mp c.parts.2.2 e (List.mem_of_getElem? h)
theorem SaysX.def_ (c : SaysX fa fn ex ts w K) (i : Nat) {d : DefD} (h : fn[i]? = some d := by rfl) : ∃ fd, FunD K d.name d.qual d.params d.body d.scope (d.dvs K) (d.kws K) (fAd K d.at_) fd := by
  have e : fn.map (fun d => fnW K d.at_) = fn.map DefD.val := congrArg (fun z : AlX => z.2.1) c
  have e2 : (fn.map fun d => fnW K d.at_)[i]? = (fn.map DefD.val)[i]? := by rw [e]
  rw [List.getElem?_map, List.getElem?_map, h] at e2
  exact DefD.funD (Option.some.inj e2) (List.all_eq_true.mp c.parts.2.1 d (List.mem_of_getElem? h))
theorem SaysX.dic (c : SaysX fa fn ex ts w K) (i : Nat) {t : Tab} (h : ts[i]? = some t := by rfl) : dicW K (t.1 K) = some (keysIn w.params t.2) := by
  have e : ts.map (fun t => dicW K (t.1 K)) = ts.map fun t => some (keysIn w.params t.2) := congrArg (fun z : AlX => z.2.2) c
  have e2 : (ts.map fun t => dicW K (t.1 K))[i]? = (ts.map fun t => some (keysIn w.params t.2))[i]? := by rw [e]
  rw [List.getElem?_map, List.getElem?_map, h] at e2
  exact Option.some.inj e2
end
/-! ### a def of no positional default -/
theorem funOf {K : PySem.W.Frag} {x qual : Str} {st : Stmt} {kws : List (Str × V)} {f : Addr} {fd : FuncData} (F : FunD K x qual (defArgs st) (defBody st) (defScope st) [] kws f fd) : Fun K x qual st f fd := by
  obtain ⟨oc, od, dV, kV, doc, pm, an, cdv, ct, osl, e, lk, hcd, hd, _⟩ := F.ex
  rcases hd with ⟨_, rfl⟩ | ⟨h, _⟩
  · exact ⟨⟨oc, od, kV, doc, pm, an, cdv, ct, osl, e, lk, hcd⟩, F.kp⟩
  · exact absurd rfl h
/-! ### dicts of the top -/
/-- a name that is no key -/
theorem dic_none {K : PySem.W.Frag} {P : Params} {a : Addr} {ks : List Str} (h : dicW K a = some (keysIn P ks)) {z : Str} (hz : z ∉ ks) : PySem.W.nsIn K a z = some none := by
  unfold dicW at h
  unfold PySem.W.nsIn
  cases q : K.lookup a with
  | none => rw [q] at h; cases h
  | some o =>
    obtain ⟨oc, od, dt, osl⟩ := o
    rw [q] at h
    cases oc with
    | type c =>
      cases od with
      | none =>
        cases dt with
        | dict es n =>
          have h1 : (match decide (c = "dict") && (osl.isEmpty && !(a == sysModules)) with
            | true => some (es.toList.map He.keyOf)
            | false => none) = some (keysIn P ks) := h
          cases y : decide (c = "dict") && (osl.isEmpty && !(a == sysModules)) with
          | false => rw [y] at h1; cases h1
          | true =>
            rw [y] at h1
            have h2 : es.toList.map He.keyOf = keysIn P ks := Option.some.inj h1
            have key : ∀ (l : List DictEntry) (ks : List Str), l.map He.keyOf = keysIn P ks → z ∉ ks → l.find? (·.key.isStr z) = none ∧ l.any (·.refKey) = false := by
              intro l
              induction l with
              | nil => intro ks _ _; exact ⟨rfl, rfl⟩
              | cons e r ih =>
                intro ks hk hz
                cases ks with
                | nil => cases hk
                | cons k ks =>
                  have hk1 : He.keyOf e :: r.map He.keyOf = some (k, PyData.keyHash P k) :: keysIn P ks := hk
                  injection hk1 with hk2 hk3
                  obtain ⟨i1, i2⟩ := ih ks hk3 (fun m => hz (List.mem_cons_of_mem _ m))
                  unfold He.keyOf at hk2
                  split at hk2
                  · rename_i x t ek
                    obtain ⟨ex, _⟩ := Prod.mk.inj (Option.some.inj hk2)
                    have ne : x ≠ z := fun e => hz (by rw [← e, ex]; exact List.mem_cons_self ..)
                    have s1 : e.key.isStr z = false := by
                      rw [ek]
                      exact beq_eq_false_iff_ne.mpr ne
                    have s2 : e.refKey = false := by
                      unfold DictEntry.refKey
                      rw [ek]
                    exact ⟨by rw [List.find?_cons, s1]; exact i1, by rw [List.any_cons, s2, i2]; rfl⟩
                  · cases hk2
            obtain ⟨k1, k2⟩ := key _ _ h2 hz
            show (match es.toList.find? (·.key.isStr z) with
              | some e => some (some e.val)
              | none => if es.toList.any (·.refKey) then none else some none) = some none
            rw [k1, k2]
            rfl
        | _ => cases h
      | some b => cases dt <;> cases h
    | _ => cases od <;> cases dt <;> cases h
/-- a dict's values are tuples of these -/
def dtB (x : Str) (kvs : List (Str × List Dv)) : Ex := fun K => kvs.all fun q => match PySem.W.nsIn K (ga K x) q.1 with
  | some (some (.ref t)) => (match K.lookup t with
    | some ⟨.type c, _, .seq its _, _⟩ => decide (c = "tuple") && (decide (its.size ≤ sizeLine) && relAll (q.2.map (Dv.v K)) its.toList)
    | _ => false)
  | _ => false
theorem dtB_ok {K : PySem.W.Frag} {x : Str} {kvs : List (Str × List Dv)} (h : dtB x kvs K = true) {q : Str × List Dv} (hq : q ∈ kvs) : ∃ t : Addr, PySem.W.nsIn K (ga K x) q.1 = some (some (.ref t)) ∧ ∀ H : Hp, SqT K H t (q.2.map (Dv.v K)) := by
  have h2 := List.all_eq_true.mp h q hq
  cases e : PySem.W.nsIn K (ga K x) q.1 with
  | none => rw [e] at h2; cases h2
  | some r =>
    rw [e] at h2
    cases r with
    | none => cases h2
    | some u =>
      cases u with
      | ref t =>
        refine ⟨t, rfl, fun H => ?_⟩
        have h3 : (match K.lookup t with
          | some ⟨.type c, _, .seq its _, _⟩ => decide (c = "tuple") && (decide (its.size ≤ sizeLine) && relAll (q.2.map (Dv.v K)) its.toList)
          | _ => false) = true := h2
        cases y : K.lookup t with
        | none => rw [y] at h3; cases h3
        | some o =>
          obtain ⟨oc, od, dt, osl⟩ := o
          rw [y] at h3
          cases oc with
          | type c =>
            cases dt with
            | seq its n =>
              obtain ⟨g1, g2⟩ := ba (show (decide (c = "tuple") && (decide (its.size ≤ sizeLine) && relAll (q.2.map (Dv.v K)) its.toList)) = true from h3)
              obtain ⟨g3, g4⟩ := ba g2
              exact .inr ⟨_, its, n, y, congrArg Value.type (of_decide_eq_true g1), rfl, of_decide_eq_true g3, relAll_ok g4⟩
            | _ => cases h3
          | _ => cases dt <;> cases h3
      | _ => cases h2
/-- what is known of a dict of the top whose values are tuples -/
structure DT (K : PySem.W.Frag) (w : World) (a : Addr) (kvs : List (Str × List V)) : Prop where
  kd : ∃ es n, KDict K w a es n
  miss : ∀ z : Str, z ∉ kvs.map (·.1) → PySem.W.nsIn K a z = some none
  there : ∀ q ∈ kvs, ∃ t : Addr, PySem.W.nsIn K a q.1 = some (some (.ref t)) ∧ ∀ H : Hp, SqT K H t q.2
theorem DT.of {K : PySem.W.Frag} {w : World} {x : Str} {kvs : List (Str × List Dv)} {ks : List Str} (h : dtB x kvs K = true) (hd : dicW K (ga K x) = some (keysIn w.params ks)) (e : kvs.map (·.1) = ks) {vs : List (Str × List V)} (ev : vs = kvs.map fun q => (q.1, q.2.map (Dv.v K)) := by rfl) : DT K w (ga K x) vs := by
  subst ev
  refine ⟨dicW_ok hd, fun z hz => dic_none hd fun m => hz ?_, fun q hq => ?_⟩
  · rw [List.map_map, show ((fun q : Str × List V => q.1) ∘ fun q : Str × List Dv => (q.1, q.2.map (Dv.v K))) = (fun q => q.1) from rfl, e]
    exact m
  · obtain ⟨p, hp, rfl⟩ := List.mem_map.mp hq
    exact dtB_ok h hp
/-- a keyword default that is an object -/
def kwAt (p : Str × Option Str) (x : Str) (K : PySem.W.Frag) : Addr := match K.lookup (fAd K p) with
  | some ⟨_, _, .func fd, _⟩ => (match fd.kwdefaults with
    | .ref D => (match PySem.W.nsIn K D x with
      | some (some (.ref a)) => a
      | _ => 0)
    | _ => 0)
  | _ => 0
def tpB (p : PySem.W.Frag → Addr) (vs : List Dv) : Ex := fun K => match K.lookup (p K) with
  | some ⟨.type c, _, .seq its _, _⟩ => decide (c = "tuple") && (decide (its.size ≤ sizeLine) && relAll (vs.map (Dv.v K)) its.toList)
  | _ => false
theorem tpB_ok {K : PySem.W.Frag} {p : PySem.W.Frag → Addr} {vs : List Dv} (h : tpB p vs K = true) (H : Hp) : SqT K H (p K) (vs.map (Dv.v K)) := by
  unfold tpB at h
  cases q : K.lookup (p K) with
  | none => rw [q] at h; cases h
  | some o =>
    obtain ⟨oc, od, dt, osl⟩ := o
    rw [q] at h
    cases oc with
    | type c =>
      cases dt with
      | seq its n =>
        obtain ⟨h1, h2⟩ := ba (show (decide (c = "tuple") && (decide (its.size ≤ sizeLine) && relAll (vs.map (Dv.v K)) its.toList)) = true from h)
        obtain ⟨h3, h4⟩ := ba h2
        exact .inr ⟨_, its, n, q, congrArg Value.type (of_decide_eq_true h1), rfl, of_decide_eq_true h3, relAll_ok h4⟩
      | _ => cases h
    | _ => cases dt <;> cases h
/-! ### the end -/
theorem walk_ofX {l : PySem.W.OpenLaw} {n k : Nat} {q : Program} {loose : List Str} {XP : (Str → Option Value) → Heap → Prop} {YP : World → Heap → Prop} {d : DefRec} {CX : CXT} {x : Str}
    (hn : l.most = some n) (hn2 : n ≤ sizeLine) (hdf : d.params.defaults = []) (hr : Room k callerA)
    (F : ∀ (w : World) (mg : Str → Option Value) (fa : Addr) (h : Heap), YP w h → h.Ns mainGlobals mg → mg d.name = some (.ref fa) →
      ∃ (K : PySem.W.Frag) (fd : FuncData) (sp : Sp), K.In h ∧ (∀ (s : Shared) (u : Value), BindsTo s fd ⟨[u], []⟩ [(x, u)]) ∧
        (∀ (H : Hp) (a : Addr) (ns : List Int), ns.length ≤ n → Only H → SqL K H a (ns.map V.int) → sp [.ref a] H (fun v _ => v = .bl true) fun _ _ _ => False) ∧
        ∀ base : Heap, K.In base → base.Ns mainGlobals mg → HG.FnG l.prog w K mg base CX k fa fd [x] sp)
    (hCX : ∀ (H : Hp) (s : Shared) (e : Value) (s' : Shared), CX [] H s (fun _ _ _ => False) e s' → False) :
    PySem.W.WalkO q loose XP YP l.row.toRowW d [] (fun f vs => PySem.call f vs) := by
  refine Att.attach_call hn hdf fun w s₀ s₁ mg mb fa o pm cd doc a vs ns G Y ho hd hcd hmg hobj hints hlen hg => ?_
  obtain ⟨K, fd, sp, KX, hb, hsp, hF⟩ := F w mg fa _ Y G.T.g hmg
  exact HG.law_callG KX G.T.g G.T.b G.T.builtins G.T.nolimit hg hobj hints (Nat.le_trans hlen hn2) hr hF hb (fun H hO hS => hsp H a ns hlen hO hS) fun H e s' => hCX H s₁ e s'
end HH
/-! enumerate of a tuple -/
namespace HE
open PySem PySem.Spec PySem.Calls PyProof.Rows L2
open Sem (wp)
open AutoSeq1 (wpAny_loadPart')
theorem meets_enumT (l : Addr) (items : Array Value) (n : Nat) (dct : Option Addr) (sl : Array (Option Value)) :
    Meets (Builtin.«enumerate.__new__» ⟨[.type "enumerate", .ref l], []⟩) (fun _ R s => s.heap.get? l = some { cls := .type "tuple", dict := dct, data := .seq items n, slots := sl } ∧
      R (.ok (.ret (.ref (s.heap.push { cls := .type "tuple_iterator", data := .fields #[.ref l, .int 0 0] }).objs.size)))
        { s with heap := (s.heap.push { cls := .type "tuple_iterator", data := .fields #[.ref l, .int 0 0] }).push { cls := .type "enumerate", data := .fields #[.none, .bool false, .ref s.heap.objs.size, rawInt 0, .none, .none] } }) :=
  .of_wp fun prog w A R s h => by
    obtain ⟨hp, g, d, tk, os⟩ := s; obtain ⟨hl, h⟩ := h
    have hsub := sub_enumerate
    have hL : Heap.IsTuple (Shared.heap ⟨hp, g, d, tk, os⟩) l items := ⟨_, hl, rfl, n, rfl⟩
    wp_walk using wpAny_loadPart' hl
    refine wpAny_stack_any fun st => wpAny_pure ?_
    split
    · rename_i c _ _ _ _ _
      cases (c == Value.type "enumerate")
      · wp_walk using wpAny_loadPart' hl, wpAny_pyIter_tuple hL
        exact ⟨_, rfl, h⟩
      · wp_walk using wpAny_loadPart' hl, wpAny_pyIter_tuple hL
        exact ⟨_, rfl, h⟩
    · wp_walk using wpAny_loadPart' hl, wpAny_pyIter_tuple hL
      exact ⟨_, rfl, h⟩
section
variable {prog : Program} {w : World} {A : Around} {E : Value → Shared → Prop} {s : Shared}
theorem call_enumT {l : Addr} {items : Array Value} {Q : Value → Shared → Prop} (hL : s.heap.IsTuple l items)
    (h : ∀ h', IsEnum h' (s.heap.objs.size + 1) s.heap.objs.size 0 .none → h'.IsTupleIter s.heap.objs.size l 0 → h'.objs.size = s.heap.objs.size + 2 →
      (∀ b o, s.heap.get? b = some o → h'.get? b = some o) → Q (.ref (s.heap.objs.size + 1)) { s with heap := h' }) :
    wpAny (model prog w) A (call (.type "enumerate") [.ref l]) Q E s := by
  obtain ⟨⟨c, dct, dt, sl⟩, hl, hc, n, hd⟩ := hL
  replace hc : c = .type "tuple" := hc
  replace hd : dt = .seq items n := hd
  subst hc hd
  refine callType_new F.called_enumerate (by decide) (F.typeCall_enumerate_1 _) (F.newCall_enumerate_1 _) (fun obj => F.args_object_init_2 obj _) F.entry_enumerate_new
    (meets_enumT l items n dct sl) ⟨hl, ?_⟩
  have hz : (s.heap.push { cls := .type "tuple_iterator", data := .fields #[.ref l, .int 0 0] }).objs.size = s.heap.objs.size + 1 := Heap.size_push ..
  show _ ∧ _
  rw [hz]
  have he : IsEnum ((s.heap.push { cls := .type "tuple_iterator", data := .fields #[.ref l, .int 0 0] }).push
      { cls := .type "enumerate", data := .fields #[.none, .bool false, .ref s.heap.objs.size, rawInt 0, .none, .none] }) (s.heap.objs.size + 1) s.heap.objs.size 0 .none := by
    have := Heap.get?_push_size (s.heap.push { cls := .type "tuple_iterator", data := .fields #[.ref l, .int 0 0] })
      (o := { cls := .type "enumerate", data := .fields #[.none, .bool false, .ref s.heap.objs.size, rawInt 0, .none, .none] }) rfl
    rw [hz] at this; exact this
  refine ⟨⟨_, he, rfl⟩, h _ he ⟨_, Heap.get?_push_of_some _ (Heap.get?_push_size _ rfl), rfl, rfl⟩ (by rw [Heap.size_push, hz]) fun b o x => Heap.get?_push_of_some _ (Heap.get?_push_of_some _ x)⟩
end
/-- at the end -/
theorem Draws.tupEnd {prog : Program} {w : World} {A : Around} (hh : A.handled = none) (it t : Addr) (items : Array Value) (j : Nat) (hj : items.size ≤ j) :
    PySem.Draws prog w A it [it, t] j (fun _ _ => False) (fun i h => i = j ∧ h.IsTupleIter it t j ∧ h.IsTuple t items) where
  live := fun _ _ st => let ⟨o, ho, _⟩ := st.2.1; ⟨o, ho⟩
  frame := fun _ _ _ st hk => ⟨st.1, st.2.1.at fun o e => hk it (by simp) o e, st.2.2.at fun o e => hk t (by simp) o e⟩
  item := fun i s Q E hi st hQ => absurd st.1 (Nat.ne_of_lt hi)
  done := fun s Q E st hE => wpAny_nextOf_tuple_end hh st.2.1 st.2.2 (by simp [hj]) hE
def IteT (K : PySem.W.Frag) (a : Addr) : It :=
  ⟨fun i H => ∃ (xs : List V) (x : V), SqT K H a xs ∧ xs[i]? = some x, fun i H v H' => ∃ T x, v = .ref T ∧ H T = none ∧ H' = upd H T (.tup [.int (i : Nat), x]) ∧ ∀ xs, SqT K H a xs → xs[i]? = some x, fun i H => ∃ xs : List V, SqT K H a xs ∧ xs.length ≤ i⟩
theorem turn_enumT {P : Program} {w : World} {K : PySem.W.Frag} {elts : List Expr} {kk : Nat} {tpos : Pos} (a e it : Addr) :
    Turn P w K (.Tuple elts kk tpos) (IteT K a) [e, it] e (fun i h => (∃ old, IsEnum h e it ((i : Nat) : Int) old) ∧ h.IsTupleIter it a i ∧ e ≠ it) where
  mem := by simp
  obj := fun i h st b hb => by
    obtain ⟨⟨old, he⟩, ⟨o, ho, hc, hd⟩, _⟩ := st
    have e' : b = e ∨ b = it := by simpa using hb
    rcases e' with z | z
    · rw [z]; exact ⟨_, he, fun v q => nomatch q⟩
    · rw [z]; exact ⟨o, ho, fun v q => by rw [hd] at q; cases q⟩
  keep := fun i h h' st k => let ⟨⟨old, he⟩, hi, hne⟩ := st; ⟨⟨old, k e (by simp) _ he⟩, hi.at fun o q => k it (by simp) o q, hne⟩
  item := by
    intro X hP hw hK hc i pins s σ H E I hf st hg
    subst hP hw hK
    obtain ⟨⟨old, he⟩, hit, hne⟩ := st
    obtain ⟨xs, x, hq, hx⟩ := hg
    obtain ⟨its, rv, p, hz⟩ := I.tuple hq
    obtain ⟨u, hu, ru⟩ := rv.get hx
    have hel : e < s.heap.objs.size := Heap.lt_size he
    have hil : it < s.heap.objs.size := by obtain ⟨_, q, _⟩ := hit; exact Heap.lt_size q
    have ht : s.heap.IsTuple a its.toArray := p
    have hai : a ≠ it := by
      rintro rfl
      obtain ⟨o, ho, hc1, _⟩ := hit
      obtain ⟨o2, ho2, hc2, _⟩ := ht
      rw [ho] at ho2
      cases ho2
      rw [hc1] at hc2
      exact absurd (Value.type.inj hc2) (by decide)
    have hae : a ≠ e := by
      rintro rfl
      obtain ⟨o2, ho2, hc2, _⟩ := ht
      rw [show s.heap.get? a = some _ from he] at ho2
      cases ho2
      exact absurd (Value.type.inj hc2) (by decide)
    have hlt : i < its.toArray.size := by
      have := List.getElem?_eq_some_iff.mp hu
      simpa using this.1
    refine wpAny_pyNext_enum_itemD (Draws.tuple (A := X.A.in1) (I.ok.hd hc) it a hai its.toArray) he ⟨hit, ht⟩ hlt hne (by simp; exact ⟨hne, Ne.symm hae⟩) fun v h' tk hv ho st' hT hsz hk => ?_
    have ev : v = u := by
      have h1 : its.toArray[i]? = some u := by simpa using hu
      rw [hv] at h1
      exact Option.some.inj h1
    subst ev
    refine ⟨_, rfl, wpAny_letOwnedTupleGo_enum (s := { s with heap := h', toks := tk + 1 }) ho fun h'' he' sb => ?_⟩
    have hT2 : h''.get? s.heap.objs.size = some { cls := .type "tuple", data := .seq #[.int i tk, v] } := (sb.2 _ (Nat.ne_of_gt hel)).trans hT
    have new : ObjOk X.prog X.w (upd H s.heap.objs.size (.tup [.int (i : Nat), x])) h'' s.heap.objs.size (.tup [.int (i : Nat), x]) :=
      ⟨by show 2 ≤ sizeLine; decide, [.int i tk, v], .cons ⟨_, rfl⟩ (.cons ru .nil), ⟨_, hT2, rfl, _, rfl⟩⟩
    have I1 : Inv X pins σ (upd H s.heap.objs.size (.tup [.int (i : Nat), x])) { s with heap := h'', toks := tk + 1 } :=
      I.turnedNew (ch := [e, it]) (fun b ob hb q => (sb.2 b (fun z => hb (by simp [z]))).trans (hk b ob (fun z => hb (by simp [z])) (fun z => hb (by simp [z])) q)) hf (Nat.le_refl _) new
    refine ⟨.ref s.heap.objs.size, _, I1, rfl, ⟨_, x, rfl, I.hok.fresh (Nat.le_refl _), rfl, fun ys hy => by rw [I.tuple_inj hy hq]; exact hx⟩, ⟨⟨v, ?_⟩, st'.1.at fun o q => (sb.2 it (Ne.symm hne)).trans q, hne⟩, fun b hb => ?_⟩
    · have e1 : ((i + 1 : Nat) : Int) = (i : Int) + 1 := by omega
      rw [e1]; exact he'
    · have hb' : b < s.heap.objs.size := by
        have e' : b = e ∨ b = it := by simpa using hb
        rcases e' with z | z
        · rw [z]; exact hel
        · rw [z]; exact hil
      rw [upd_ne (Nat.ne_of_lt hb')]
      exact (hf b hb).1
  done := by
    intro X hP hw hK hc i pins s σ H E I hf st hg
    subst hP hw hK
    obtain ⟨⟨old, he⟩, hit, hne⟩ := st
    obtain ⟨xs, hq, hx⟩ := hg
    obtain ⟨its, rv, p, hz⟩ := I.tuple hq
    obtain ⟨f0, f1, f2, f3, f4, f5⟩ := hf it (by simp)
    have hl := rv.length
    have ht : s.heap.IsTuple a its.toArray := p
    have hai : a ≠ it := by
      rintro rfl
      obtain ⟨o, ho, hc1, _⟩ := hit
      obtain ⟨o2, ho2, hc2, _⟩ := ht
      rw [ho] at ho2
      cases ho2
      rw [hc1] at hc2
      exact absurd (Value.type.inj hc2) (by decide)
    -- the walk may be asked behind the end
    refine wpAny_pyNext_enum_endD (Draws.tupEnd (A := X.A.in1) (I.ok.hd hc) it a its.toArray i (by simp; omega)) he ⟨rfl, hit, ht⟩ fun h' eb => ⟨rfl, I.turned (t' := s.toks) (fun b o hb q => eb b o hb q) f0 f1 f3 f4 f5⟩
  self := fun A i s Q E st h => let ⟨⟨_, he⟩, _⟩ := st; wpAny_pyIter_enum he h
def iEnumT (K : PySem.W.Frag) (ta : TA) : TI := fun σ H R => ta σ H fun vs H1 => ∃ a xs, vs = [.ref a] ∧ SqT K H1 a xs ∧ R (IteT K a) H1
theorem pi_enumT {X : Cx} {e : Expr} {ta : TA} {p pos tpos : Pos} {elts : List Expr} {kk : Nat} (hg : Gl X "enumerate") (hm : X.mg "enumerate" = none) (ha : PA X [e] ta) (hs : starEach [e] X.env = [(false, eval e X.env)] := by rfl) :
    PI X (.Tuple elts kk tpos) (.Call (.Name "enumerate" p) [e] [] pos) (iEnumT X.K ta) := by
  refine ⟨fun pins s σ H R I h => ?_⟩
  refine Call_ (ld_blt I hg hm boot_enumerate (PyProof.Rows.callWith_type1 (thn (ha.run pos pins s σ H _ I h) fun us s1 ⟨vs, H1, I1, r1, q1⟩ => ?_) hs rfl))
  obtain ⟨a, xs, ex, hq, q⟩ := q1
  subst ex
  cases r1 with
  | cons r rr =>
    cases rr
    cases r
    obtain ⟨its, rv, p', hz⟩ := I1.tuple hq
    refine call_enumT (show s1.heap.IsTuple a its.toArray from p') fun h' he hit hsz hk => wpAny_pyIter_enum he ?_
    have I2 : Inv X pins σ H1 { s1 with heap := h' } := I1.kept (t' := s1.toks) hk
    refine ⟨s1.heap.objs.size + 1, [s1.heap.objs.size + 1, s1.heap.objs.size], _, _, H1, rfl, I2, turn_enumT a (s1.heap.objs.size + 1) s1.heap.objs.size, ⟨⟨.none, he⟩, hit, Nat.succ_ne_self _⟩, fun b hb => ?_, q⟩
    have e' : b = s1.heap.objs.size + 1 ∨ b = s1.heap.objs.size := by simpa using hb
    have hle : s1.heap.objs.size ≤ b := by
      rcases e' with z | z
      · rw [z]; exact Nat.le_add_right _ _
      · rw [z]; exact Nat.le_refl _
    exact I1.fpOk hle (I1.hok.fresh hle)
theorem walk_enumT {K : PySem.W.Frag} {a : Addr} {xs : List V} : Walk (IteT K a) xs.length (fun H => SqT K H a xs) (YPair (fun i => some (.int (i : Nat))) (fun i => xs[i]?)) := by
  refine ⟨fun i _ hi q => ⟨xs, xs[i], q, by simp [hi]⟩, fun _ q => ⟨xs, q, Nat.le_refl _⟩, fun i H v H' _ q y => ?_⟩
  obtain ⟨T, x, h1, h2, h3, h4⟩ := y
  exact ⟨T, .int (i : Nat), x, h1, h2, h3, rfl, h4 xs q⟩
end HE
/-! zip of a tuple and a list, over the library's zip of any two iterators (KE.GoesZip, KE.GoesMore) -/
namespace HE
open PySem PySem.Spec PySem.Calls PyProof.Rows L2 RZ
open Sem (wp)
theorem Draws.lstEnd {prog : Program} {w : World} {A : Around} (hh : A.handled = none) (it t : Addr) (items : Array Value) (j : Nat) (hj : items.size ≤ j) :
    PySem.Draws prog w A it [it, t] j (fun _ _ => False) (fun i h => i = j ∧ h.IsListIter it t j ∧ h.IsList t items) where
  live := fun _ _ st => let ⟨o, ho, _⟩ := st.2.1; ⟨o, ho⟩
  frame := fun _ _ _ st hk => ⟨st.1, st.2.1.at fun o e => hk it (by simp) o e, st.2.2.at fun o e => hk t (by simp) o e⟩
  item := fun i s Q E hi st hQ => absurd st.1 (Nat.ne_of_lt hi)
  done := fun s Q E st hE => wpAny_nextOf_list_end hh st.2.1 st.2.2 (by simp [hj]) hE
/-- a tuple at a and a list at b, as they stand at each turn -/
def ItzTL (K : PySem.W.Frag) (a b : Addr) : It :=
  ⟨fun i H => ∃ (xs ys : List V) (x y : V), SqT K H a xs ∧ SqL K H b ys ∧ xs[i]? = some x ∧ ys[i]? = some y,
    fun i H v H' => ∃ T x y, v = .ref T ∧ H T = none ∧ H' = upd H T (.tup [x, y]) ∧ (∀ xs, SqT K H a xs → xs[i]? = some x) ∧ ∀ ys, SqL K H b ys → ys[i]? = some y,
    fun i H => ∃ xs ys : List V, SqT K H a xs ∧ SqL K H b ys ∧ (xs.length ≤ i ∨ ys.length ≤ i)⟩
/-- what the walk's own objects are -/
def ZSt (z TI TO i1 i2 a b : Addr) (i : Nat) (h : Heap) : Prop := IsZip h z TI TO .none ∧ IsTupOf2 h TI (.ref i1) (.ref i2) ∧ (∃ x y, IsTupOf2 h TO x y) ∧ h.IsTupleIter i1 a i ∧ h.IsListIter i2 b i
theorem mem5 {c z TI TO i1 i2 : Addr} (h : c ∈ [z, TI, TO, i1, i2]) : c = z ∨ c = TI ∨ c = TO ∨ c = i1 ∨ c = i2 := by simpa using h
theorem ZSt.live {z TI TO i1 i2 a b : Addr} {i : Nat} {h : Heap} (st : ZSt z TI TO i1 i2 a b i h) {c : Addr} (hc : c ∈ [z, TI, TO, i1, i2]) : ∃ o, h.get? c = some o ∧ ∀ v, o.data ≠ .cell v := by
  obtain ⟨h1, h2, ⟨x, y, h3⟩, ⟨p, e4, _, d4⟩, ⟨q, e5, _, d5⟩⟩ := st
  rcases mem5 hc with e | e | e | e | e <;> subst e
  · exact ⟨_, h1, fun v q => nomatch q⟩
  · exact ⟨_, h2, fun v q => nomatch q⟩
  · exact ⟨_, h3, fun v q => nomatch q⟩
  · exact ⟨p, e4, fun v q => by rw [d4] at q; cases q⟩
  · exact ⟨q, e5, fun v z => by rw [d5] at z; cases z⟩
theorem sep_of {n a b : Addr} (ha : a < n) (hb : b < n) : ZipSep2 (n + 4) (n + 2) (n + 3) n (n + 1) [n, a] [n + 1, b] := by
  have e : ∀ k j : Nat, k ≠ j → n + k ≠ n + j := fun k j h z => h (Nat.add_left_cancel z)
  have ne : ∀ {c : Addr} (k : Nat), c < n → n + k ≠ c := fun k h z => Nat.lt_irrefl n (Nat.lt_of_le_of_lt (Nat.le_add_right n k) (z ▸ h))
  constructor
  · exact e 2 4 (by decide)
  · exact e 3 4 (by decide)
  · exact e 2 3 (by decide)
  · exact e 2 0 (by decide)
  · simp
  · simp only [List.mem_cons, List.not_mem_nil, or_false, not_or]; exact ⟨e 4 0 (by decide), ne 4 ha⟩
  · simp only [List.mem_cons, List.not_mem_nil, or_false, not_or]; exact ⟨e 3 0 (by decide), ne 3 ha⟩
  · exact e 2 1 (by decide)
  · simp
  · simp only [List.mem_cons, List.not_mem_nil, or_false, not_or]; exact ⟨e 4 1 (by decide), ne 4 hb⟩
  · simp only [List.mem_cons, List.not_mem_nil, or_false, not_or]; exact ⟨e 3 1 (by decide), ne 3 hb⟩
  · simp only [List.mem_cons, List.not_mem_nil, or_false, not_or]; exact ⟨e 0 1 (by decide), ne 0 hb⟩
  · simp only [List.mem_cons, List.not_mem_nil, or_false, not_or]; exact ⟨e 1 0 (by decide), ne 1 ha⟩
theorem turn_zipTL {P : Program} {w : World} {K : PySem.W.Frag} {elts : List Expr} {kk : Nat} {tpos : Pos} {a b z TI TO i1 i2 : Addr} (D : ZipSep2 z TI TO i1 i2 [i1, a] [i2, b]) (hai : a ≠ i1) (hbi : b ≠ i2) (hz1 : i1 ≠ z) (hz2 : i2 ≠ z) :
    Turn P w K (.Tuple elts kk tpos) (ItzTL K a b) [z, TI, TO, i1, i2] z (ZSt z TI TO i1 i2 a b) where
  mem := by simp
  obj := fun i h st c hc => st.live hc
  keep := fun i h h' st k => by
    obtain ⟨h1, h2, ⟨x, y, h3⟩, h4, h5⟩ := st
    exact ⟨k z (by simp) _ h1, k TI (by simp) _ h2, ⟨x, y, k TO (by simp) _ h3⟩, h4.at fun o q => k i1 (by simp) o q, h5.at fun o q => k i2 (by simp) o q⟩
  item := by
    intro X hP hw hK hc i pins s σ H E I hf st hg
    subst hP hw hK
    obtain ⟨g1, g2, ⟨x0, y0, g3⟩, g4, g5⟩ := id st
    obtain ⟨xs, ys, x, y, hqx, hqy, hx, hy⟩ := hg
    obtain ⟨its, rv, p, _⟩ := I.tuple hqx
    obtain ⟨its2, rv2, p2, _⟩ := I.list hqy
    obtain ⟨u, hu, ru⟩ := rv.get hx
    obtain ⟨u2, hu2, ru2⟩ := rv2.get hy
    have ht : s.heap.IsTuple a its.toArray := p
    have lt1 : i < its.toArray.size := by have := (List.getElem?_eq_some_iff.mp hu).1; simpa using this
    have lt2 : i < its2.toArray.size := by have := (List.getElem?_eq_some_iff.mp hu2).1; simpa using this
    have zl : z < s.heap.objs.size := Heap.lt_size g1
    refine wpAny_pyNext_zipD2_item D (PySem.Draws.tuple (A := X.A.in1) (I.ok.hd hc) i1 a hai its.toArray) (PySem.Draws.list (A := X.A.in1) (I.ok.hd hc) i2 b hbi its2.toArray) g1 g2 g3 ⟨g4, ht⟩ ⟨g5, p2.isList⟩ lt1 lt2
      fun v1 v2 h' tk e1 e2 z' t' s1 s2 hT hsz hk => ?_
    have ev1 : v1 = u := by
      have h1 : its.toArray[i]? = some u := by simpa using hu
      rw [e1] at h1
      exact Option.some.inj h1
    have ev2 : v2 = u2 := by
      have h1 : its2.toArray[i]? = some u2 := by simpa using hu2
      rw [e2] at h1
      exact Option.some.inj h1
    subst ev1
    subst ev2
    refine ⟨_, rfl, wpAny_letOwnedTupleGo_zip (s := { s with heap := h', toks := tk }) z' fun h2 z2 sb => ?_⟩
    have nz : s.heap.objs.size ≠ z := Nat.ne_of_gt zl
    have hT2 : h2.get? s.heap.objs.size = some { cls := .type "tuple", data := .seq #[v1, v2] } := (sb.2 _ nz).trans hT
    have old : ∀ c o, c ∉ [z, TI, TO, i1, i2] → s.heap.get? c = some o → h2.get? c = some o := fun c o hm q => by
      simp only [List.mem_cons, List.not_mem_nil, or_false, not_or] at hm
      exact (sb.2 c hm.1).trans (hk c o hm.1 hm.2.2.1 hm.2.2.2.1 hm.2.2.2.2 q)
    have new : ObjOk X.prog X.w (upd H s.heap.objs.size (.tup [x, y])) h2 s.heap.objs.size (.tup [x, y]) :=
      ⟨by show 2 ≤ sizeLine; decide, [v1, v2], .cons ru (.cons ru2 .nil), ⟨_, hT2, rfl, _, rfl⟩⟩
    have I1 := I.turnedNew (t' := tk) (ch := [z, TI, TO, i1, i2]) (h' := h2) old hf (Nat.le_refl _) new
    refine ⟨.ref s.heap.objs.size, _, I1, rfl, ⟨_, x, y, rfl, I.hok.fresh (Nat.le_refl _), rfl, fun l hl => by rw [I.tuple_inj hl hqx]; exact hx, fun l hl => by rw [I.list_inj hl hqy]; exact hy⟩,
      ⟨z2, (sb.2 _ D.TIz).trans (hk _ _ D.TIz D.TITO D.TIi1 D.TIi2 g2), ⟨v1, v2, (sb.2 _ D.TOz).trans t'⟩, s1.1.at fun o q => (sb.2 _ hz1).trans q, s2.1.at fun o q => (sb.2 _ hz2).trans q⟩, fun c hm => ?_⟩
    obtain ⟨o, ho, _⟩ := st.live hm
    rw [upd_ne (Nat.ne_of_lt (Heap.lt_size ho))]
    exact (hf c hm).1
  done := by
    intro X hP hw hK hc i pins s σ H E I hf st hg
    subst hP hw hK
    obtain ⟨g1, g2, ⟨x0, y0, g3⟩, g4, g5⟩ := st
    obtain ⟨xs, ys, hqx, hqy, hend⟩ := hg
    obtain ⟨its, rv, p, _⟩ := I.tuple hqx
    obtain ⟨its2, rv2, p2, _⟩ := I.list hqy
    have ht : s.heap.IsTuple a its.toArray := p
    have l1 := rv.length
    have l2 := rv2.length
    have fin : ∀ (h' : Heap) (tk : Nat), (∀ c o, c ≠ z → c ≠ TO → c ≠ i1 → c ≠ i2 → s.heap.get? c = some o → h'.get? c = some o) → (none : Option Value) = none ∧ Inv X pins σ H { s with heap := h', toks := tk } := fun h' tk hk =>
      ⟨rfl, I.turnedL (t' := tk) (ch := [z, TI, TO, i1, i2]) (fun c o hb q => by
        simp only [List.mem_cons, List.not_mem_nil, or_false, not_or] at hb
        exact hk c o hb.1 hb.2.2.1 hb.2.2.2.1 hb.2.2.2.2 q) hf⟩
    have hh := I.ok.hd hc
    by_cases c1 : its.toArray.size ≤ i
    · by_cases c2 : its2.toArray.size ≤ i
      · exact wpAny_pyNext_zipD2_end D (Draws.tupEnd (A := X.A.in1) hh i1 a its.toArray i c1) (Draws.lstEnd (A := X.A.in1) hh i2 b its2.toArray i c2) g1 g2 g3 ⟨rfl, g4, ht⟩ ⟨rfl, g5, p2.isList⟩ (Nat.le_refl _) (Nat.le_refl _) (.inl rfl) fin
      · exact wpAny_pyNext_zipD2_end D (Draws.tupEnd (A := X.A.in1) hh i1 a its.toArray i c1) (PySem.Draws.list (A := X.A.in1) hh i2 b hbi its2.toArray) g1 g2 g3 ⟨rfl, g4, ht⟩ ⟨g5, p2.isList⟩ (Nat.le_refl _) (by omega) (.inl rfl) fin
    · have c2 : its2.toArray.size ≤ i := by
        simp only [List.size_toArray] at c1 ⊢
        omega
      exact wpAny_pyNext_zipD2_end D (PySem.Draws.tuple (A := X.A.in1) hh i1 a hai its.toArray) (Draws.lstEnd (A := X.A.in1) hh i2 b its2.toArray i c2) g1 g2 g3 ⟨g4, ht⟩ ⟨rfl, g5, p2.isList⟩ (by omega) (Nat.le_refl _) (.inr rfl) fin
  self := fun A i s Q E st h => wpAny_pyIter_zip st.1 h
def iZipTL (K : PySem.W.Frag) (ta : TA) : TI := fun σ H R => ta σ H fun vs H1 => ∃ a b xs ys, vs = [.ref a, .ref b] ∧ SqT K H1 a xs ∧ SqL K H1 b ys ∧ R (ItzTL K a b) H1
theorem pi_zipTL {X : Cx} {e e2 : Expr} {ta : TA} {p pos tpos : Pos} {elts : List Expr} {kk : Nat} (hg : Gl X "zip") (hm : X.mg "zip" = none) (ha : PA X [e, e2] ta)
    (hs : starEach [e, e2] X.env = (false, eval e X.env) :: starEach [e2] X.env := by rfl) (hpl : (backTo pos (starEach [e2] X.env)).any (·.1) = false := by rfl) :
    PI X (.Tuple elts kk tpos) (.Call (.Name "zip" p) [e, e2] [] pos) (iZipTL X.K ta) := by
  refine ⟨fun pins s σ H R I h => ?_⟩
  refine Call_ (ld_blt I hg hm PyProof.Rows.boot_zip (PyProof.Rows.callWith_type1 (thn (ha.run pos pins s σ H _ I h) fun us s1 ⟨vs, H1, I1, r1, a, b, xs, ys, ex, hqx, hqy, q⟩ => ?_) hs hpl))
  subst ex
  obtain ⟨u1, u2, rfl, ra, rb⟩ := vals2 r1
  cases ra
  cases rb
  obtain ⟨its, rv, p1, _⟩ := I1.tuple hqx
  obtain ⟨its2, rv2, p2, _⟩ := I1.list hqy
  have ht : s1.heap.IsTuple a its.toArray := p1
  have al : a < s1.heap.objs.size := by obtain ⟨_, e, _⟩ := ht; exact Heap.lt_size e
  refine zip_begins2 (begins_tuple a its.toArray) (begins_list b its2.toArray) ht p2.isList fun h' hz hTI hTO k1 k2 hsz hk => wpAny_pyIter_zip hz ?_
  have I2 : Inv X pins σ H1 { s1 with heap := h' } := I1.kept (t' := s1.toks) hk
  have n1 : ∀ k : Nat, s1.heap.objs.size + (k + 1) ≠ s1.heap.objs.size := fun k z => absurd (Nat.add_left_cancel (show s1.heap.objs.size + (k + 1) = s1.heap.objs.size + 0 from z)) (Nat.succ_ne_zero k)
  have n2 : s1.heap.objs.size + 1 ≠ s1.heap.objs.size + 4 := fun z => absurd (Nat.add_left_cancel z) (by decide)
  refine ⟨s1.heap.objs.size + 4, _, _, _, H1, rfl, I2, turn_zipTL (sep_of al p2.lt) (Nat.ne_of_lt al) (Nat.ne_of_lt (Nat.lt_succ_of_lt p2.lt)) (Ne.symm (n1 3)) n2, ⟨hz, hTI, ⟨_, _, hTO⟩, ⟨_, k1, rfl, rfl⟩, ⟨_, k2, rfl, rfl⟩⟩, fun c hm => ?_, q⟩
  have hle : s1.heap.objs.size ≤ c := by
    rcases mem5 hm with e | e | e | e | e <;> rw [e]
    · exact Nat.le_add_right _ _
    · exact Nat.le_add_right _ _
    · exact Nat.le_add_right _ _
    · exact Nat.le_refl _
    · exact Nat.le_add_right _ _
  exact I1.fpOk hle (I1.hok.fresh hle)
theorem walk_zipTL {K : PySem.W.Frag} {a b : Addr} {xs ys : List V} {n : Nat} (hn : n = min xs.length ys.length) : Walk (ItzTL K a b) n (fun H => SqT K H a xs ∧ SqL K H b ys) (YPair (fun i => xs[i]?) (fun i => ys[i]?)) := by
  subst hn
  refine ⟨fun i H hi q => ?_, fun _ q => ⟨xs, ys, q.1, q.2, by omega⟩, fun i H v H' _ q y => ?_⟩
  · have h1 : i < xs.length := by omega
    have h2 : i < ys.length := by omega
    exact ⟨xs, ys, xs[i], ys[i], q.1, q.2, by simp [h1], by simp [h2]⟩
  · obtain ⟨T, x, y, e1, e2, e3, e4, e5⟩ := y
    exact ⟨T, x, y, e1, e2, e3, e4 xs q.1, e5 ys q.2⟩
theorem walk_zipT {K : PySem.W.Frag} {a b : Addr} {xs ys : List V} {n : Nat} (hn : n = min xs.length ys.length) : Walk (ItzT K a b) n (fun H => SqT K H a xs ∧ SqT K H b ys) (YPair (fun i => xs[i]?) (fun i => ys[i]?)) := by
  subst hn
  refine ⟨fun i H hi q => ?_, fun _ q => ⟨xs, ys, q.1, q.2, by omega⟩, fun i H v H' _ q y => ?_⟩
  · have h1 : i < xs.length := by omega
    have h2 : i < ys.length := by omega
    exact ⟨xs, ys, xs[i], ys[i], q.1, q.2, by simp [h1], by simp [h2]⟩
  · obtain ⟨T, x, y, e1, e2, e3, e4, e5⟩ := y
    exact ⟨T, x, y, e1, e2, e3, e4 xs q.1, e5 ys q.2⟩
end HE
/-! dicts of the top whose values are tuples: k in d, d[k]; blocks that are never run; data -/
namespace HD
open PySem PySem.Spec PySem.Calls PyProof.Rows L2 HB HH
section
variable {X : Cx} {a : Addr} {kvs : List (Str × List V)}
theorem _root_.HH.DT.ns {K : PySem.W.Frag} {w : World} (D : DT K w a kvs) (z : Str) : ∃ r, PySem.W.nsIn K a z = some r ∧ r.isSome = decide (z ∈ kvs.map (·.1)) := by
  by_cases h : z ∈ kvs.map (·.1)
  · obtain ⟨q, hq, rfl⟩ := List.mem_map.mp h
    obtain ⟨t, e, _⟩ := D.there q hq
    exact ⟨_, e, by rw [decide_eq_true h]; rfl⟩
  · exact ⟨_, D.miss z h, by rw [decide_eq_false h]; rfl⟩
def rInDT (a : Addr) (kvs : List (Str × List V)) (neg : Bool) : R2 := fun x y H Q => ∃ z : Str, x = .str z ∧ y = .ref a ∧ Q (.bl (if neg then !decide (z ∈ kvs.map (·.1)) else decide (z ∈ kvs.map (·.1)))) H
theorem op_in_dt (D : DT X.K X.w a kvs) : OpR X (compareOp .In) (rInDT a kvs false) := by
  obtain ⟨es, n, kd⟩ := D.kd
  intro pins s σ H x y v u Q I rx ry h
  obtain ⟨z, e1, e2, q⟩ := h
  obtain ⟨r, er, es'⟩ := D.ns z
  exact op_in_kd kd pins s σ H x y v u Q I rx ry ⟨z, r, e1, e2, er, by rw [es']; exact q⟩
theorem op_notIn_dt (D : DT X.K X.w a kvs) : OpR X (compareOp .NotIn) (rInDT a kvs true) := by
  obtain ⟨es, n, kd⟩ := D.kd
  intro pins s σ H x y v u Q I rx ry h
  obtain ⟨z, e1, e2, q⟩ := h
  obtain ⟨r, er, es'⟩ := D.ns z
  exact op_notIn_kd kd pins s σ H x y v u Q I rx ry ⟨z, r, e1, e2, er, by rw [es']; exact q⟩
def rIxDT (K : PySem.W.Frag) (a : Addr) (kvs : List (Str × List V)) : R2 := fun x y H Q => ∃ q ∈ kvs, x = .ref a ∧ y = .str q.1 ∧ ∀ t : Addr, (∀ H' : Hp, SqT K H' t q.2) → Q (.ref t) H
theorem ix_dt (D : DT X.K X.w a kvs) : IxR X (rIxDT X.K a kvs) := by
  obtain ⟨es, n, kd⟩ := D.kd
  intro value slice pins s σ H x y v u Q I rx ry h hs
  obtain ⟨q, hq, e1, e2, k⟩ := h
  obtain ⟨t, et, ht⟩ := D.there q hq
  exact ix_kdict value slice pins s σ H x y v u Q I rx ry ⟨a, q.1, .ref t, e1, e2, ⟨es, n, _, kd.at_, kd.lit, et, rfl⟩, k t ht⟩ hs
/-- a block that is never run -/
def tDead : TS := fun _ _ _ => False
theorem pss_dead {b : List Stmt} : PSs X b tDead := ⟨fun _ _ _ _ _ _ h => h.elim⟩
end
/-! ### data: kinds, sizes -/
mutual
/-- texts and displays of a size that the rules take -/
def okD : PyData → Bool
  | .str z => decide (z.length ≤ 100000)
  | .list xs => decide (xs.length ≤ 10000) && okAll xs
  | .tuple xs => decide (xs.length ≤ 10000) && okAll xs
  | _ => true
def okAll : List PyData → Bool
  | [] => true
  | x :: xs => okD x && okAll xs
end
theorem okAll_mem : ∀ {xs : List PyData}, okAll xs = true → ∀ x ∈ xs, okD x = true
  | y :: ys, h, x, hx => by
    simp only [okAll, Bool.and_eq_true] at h
    rcases List.mem_cons.mp hx with rfl | hx
    · exact h.1
    · exact okAll_mem h.2 x hx
/-- the kind's name -/
def kindD : PyData → String
  | .none => "NoneType"
  | .bool _ => "bool"
  | .int _ => "int"
  | .str _ => "str"
  | .list _ => "list"
  | .tuple _ => "tuple"
  | _ => ""
theorem dp_ty {K : PySem.W.Frag} {H : Hp} {v : V} {d : PyData} (h : Dp K H v d) : TyX K H v (.type (kindD d)) ∧ kindD d ∈ ["NoneType", "bool", "int", "str", "list", "tuple"] := by
  cases h with
  | non => exact ⟨.base .non, by simp [kindD]⟩
  | bl b => exact ⟨.base (.bl b), by simp [kindD]⟩
  | int i => exact ⟨.base (.int i), by simp [kindD]⟩
  | str x => exact ⟨.base (.str x), by simp [kindD]⟩
  | lst h _ =>
    refine ⟨?_, by simp [kindD]⟩
    rcases h with (h | ⟨o, h⟩) | ⟨o, its, n, h, c, _⟩
    · exact .base (.lst h)
    · exact .base (.frz h)
    · exact .kList h c
  | tup h _ =>
    refine ⟨?_, by simp [kindD]⟩
    rcases h with (h | ⟨o, h⟩) | ⟨o, its, n, h, c, _⟩
    · exact .base (.tup h)
    · exact .fTuple h
    · exact .kTuple h c
/-- isinstance(x, k) of data -/
theorem kit_dat {K : PySem.W.Frag} {d : PyData} {k : String} (hk : k ∈ ["str", "tuple", "bool"]) (h : kindD d ∈ ["NoneType", "bool", "int", "str", "list", "tuple"]) : PySem.W.kitOne K (.type (kindD d)) (.type k) = some (decide (kindD d = k)) := by
  have : kitB (kindD d) k = some (decide (kindD d = k)) := by
    generalize kindD d = j at h
    simp only [List.mem_cons, List.not_mem_nil, or_false] at hk h
    rcases hk with rfl | rfl | rfl <;> rcases h with rfl | rfl | rfl | rfl | rfl | rfl <;> decide +kernel
  exact kit_ty this
theorem kit_datInt {K : PySem.W.Frag} {d : PyData} (h : kindD d ∈ ["NoneType", "bool", "int", "str", "list", "tuple"]) : PySem.W.kitOne K (.type (kindD d)) (.type "int") = some (decide (kindD d = "int" ∨ kindD d = "bool")) := by
  have : kitB (kindD d) "int" = some (decide (kindD d = "int" ∨ kindD d = "bool")) := by
    generalize kindD d = j at h
    simp only [List.mem_cons, List.not_mem_nil, or_false] at h
    rcases h with rfl | rfl | rfl | rfl | rfl | rfl <;> decide +kernel
  exact kit_ty this
end HD
/-! dicts of texts: as lists of pairs; sorted pairs of texts -/
namespace HS
open PySem PySem.Spec PyProof.Rows L2 HX HB
/-- a dict of texts -/
def dz (ts : List (Str × Str)) : List (Key × V) := ts.map fun p => (Sum.inr p.1, .str p.2)
def lookS (ts : List (Str × Str)) (k : Str) : Option Str := (ts.find? fun p => decide (p.1 = k)).map (·.2)
theorem lookS_val (ts : List (Str × Str)) (k : Str) : valV (dz ts) (Sum.inr k : Key) = (lookS ts k).map V.str := by
  unfold valV dz lookS
  rw [List.find?_map]
  have e : ((fun kv : Key × V => decide (kv.1 = Sum.inr k)) ∘ fun p : Str × Str => (Sum.inr p.1, V.str p.2)) = fun p : Str × Str => decide (p.1 = k) := by
    funext p
    show decide ((Sum.inr p.1 : Key) = Sum.inr k) = _
    rw [key_rr]
  rw [e]
  cases ts.find? fun p => decide (p.1 = k) <;> rfl
theorem nodup_fst : ∀ {ks : List (Str × Str)}, (ks.map (·.1)).Nodup → ∀ {p q : Str × Str}, p ∈ ks → q ∈ ks → p.1 = q.1 → p = q
  | [], _, p, _, hp, _, _ => by cases hp
  | a :: l, h, p, q, hp, hq, he => by
    rw [List.map_cons, List.nodup_cons] at h
    rcases List.mem_cons.mp hp with e1 | hp' <;> rcases List.mem_cons.mp hq with e2 | hq'
    · rw [e1, e2]
    · subst e1; exact absurd (List.mem_map.mpr ⟨q, hq', he.symm⟩) h.1
    · subst e2; exact absurd (List.mem_map.mpr ⟨p, hp', he⟩) h.1
    · exact nodup_fst h.2 hp' hq' he
theorem lookS_mem {ts : List (Str × Str)} (h : (ts.map (·.1)).Nodup) {k w : Str} : lookS ts k = some w ↔ (k, w) ∈ ts := by
  unfold lookS
  constructor
  · intro e
    cases e1 : ts.find? fun p => decide (p.1 = k) with
    | none => rw [e1] at e; cases e
    | some p =>
      rw [e1] at e
      cases e
      have h1 := List.mem_of_find?_eq_some e1
      have h2 : p.1 = k := by have := List.find?_some e1; simpa using this
      rw [← h2]
      exact h1
  · intro hm
    cases e1 : ts.find? fun p => decide (p.1 = k) with
    | none => exact absurd (List.find?_eq_none.mp e1 _ hm) (by simp)
    | some p =>
      have h1 := List.mem_of_find?_eq_some e1
      have h2 : p.1 = k := by have := List.find?_some e1; simpa using this
      rw [nodup_fst h h1 hm h2]
      rfl
theorem merge_new : ∀ (more acc : List (Key × V)), ((acc ++ more).map (·.1)).Nodup → mergeK acc more = acc ++ more
  | [], acc, _ => by rw [List.append_nil]; rfl
  | (k, v) :: more, acc, h => by
    have hk : valV acc k = none := by
      unfold valV
      cases e : acc.find? fun kv => decide (kv.1 = k) with
      | none => rfl
      | some p =>
        have hp := List.mem_of_find?_eq_some e
        have he := List.find?_some e
        rw [List.map_append, List.map_cons, List.nodup_append] at h
        exact absurd (of_decide_eq_true he) (h.2.2 _ (List.mem_map.mpr ⟨p, hp, rfl⟩) _ (List.mem_cons_self ..))
    show mergeK (putK acc k v) more = _
    rw [putK_new v hk, merge_new more (acc ++ [(k, v)]) (by rwa [List.append_assoc]), List.append_assoc]
    rfl
theorem dz_new {ts : List (Str × Str)} (h : (ts.map (·.1)).Nodup) : mergeK [] (dz ts) = dz ts := by
  refine merge_new (dz ts) [] ?_
  rw [List.nil_append]
  unfold dz
  rw [List.map_map]
  have e : (((fun kv : Key × V => kv.1) ∘ fun p : Str × Str => ((Sum.inr p.1 : Key), V.str p.2)) : Str × Str → Key) = (fun s : Str => (Sum.inr s : Key)) ∘ fun p => p.1 := rfl
  rw [e, ← List.map_map]
  exact List.Pairwise.map _ (fun a b hab z => hab (Sum.inr.inj z)) h
theorem paired_at {α β : Type} {F : α → β → Prop} : ∀ {l : List α} {m : List β}, Paired F l m → ∀ {i : Nat} {a : α}, l[i]? = some a → ∃ b, m[i]? = some b ∧ F a b
  | _, _, .nil, i, a, h => by simp at h
  | _, _, .cons x t, 0, a, h => by cases h; exact ⟨_, rfl, x⟩
  | _, _, .cons x t, i + 1, a, h => paired_at t (by simpa using h)
theorem paired_imp {α β : Type} {F G : α → β → Prop} (h : ∀ a b, F a b → G a b) : ∀ {l : List α} {m : List β}, Paired F l m → Paired G l m
  | _, _, .nil => .nil
  | _, _, .cons x t => .cons (h _ _ x) (paired_imp h t)
/-! ### dicts of texts, written -/
def putZ (ts : List (Str × Str)) (k w : Str) : List (Str × Str) :=
  if (ts.any fun p => decide (p.1 = k)) = true then ts.map (fun p => if p.1 = k then (p.1, w) else p) else ts ++ [(k, w)]
theorem putZ_dz (ts : List (Str × Str)) (k w : Str) : putK (dz ts) (Sum.inr k : Key) (.str w) = dz (putZ ts k w) := by
  unfold putK putZ dz
  have e : ((ts.map fun p => ((Sum.inr p.1 : Key), V.str p.2)).any fun kv => decide (kv.1 = (Sum.inr k : Key))) = ts.any fun p => decide (p.1 = k) := by
    rw [List.any_map]
    congr 1
    funext p
    show decide ((Sum.inr p.1 : Key) = Sum.inr k) = _
    rw [key_rr]
  rw [e]
  split
  · rw [List.map_map, List.map_map]
    apply List.map_congr_left
    intro p _
    show (if (Sum.inr p.1 : Key) = Sum.inr k then _ else _) = ((Sum.inr (if p.1 = k then (p.1, w) else p).1 : Key), V.str (if p.1 = k then (p.1, w) else p).2)
    by_cases h : p.1 = k
    · rw [if_pos (congrArg Sum.inr h), if_pos h]
    · rw [if_neg (fun z => h (Sum.inr.inj z)), if_neg h]
  · rw [List.map_append]; rfl
theorem putZ_keys (ts : List (Str × Str)) (k w : Str) : (putZ ts k w).map (·.1) = if (ts.any fun p => decide (p.1 = k)) = true then ts.map (·.1) else ts.map (·.1) ++ [k] := by
  unfold putZ
  split
  · rw [List.map_map]
    apply List.map_congr_left
    intro p _
    show (if p.1 = k then (p.1, w) else p).1 = p.1
    split <;> rfl
  · rw [List.map_append]; rfl
theorem putZ_nd {ts : List (Str × Str)} (h : (ts.map (·.1)).Nodup) (k w : Str) : ((putZ ts k w).map (·.1)).Nodup := by
  rw [putZ_keys]
  split
  · exact h
  · rename_i hn
    rw [List.nodup_append]
    refine ⟨h, by simp, fun a ha b hb e => hn ?_⟩
    rw [List.mem_singleton] at hb
    obtain ⟨p, hp, rfl⟩ := List.mem_map.mp ha
    exact List.any_eq_true.mpr ⟨p, hp, decide_eq_true (e.trans hb)⟩
theorem putZ_len (ts : List (Str × Str)) (k w : Str) : (putZ ts k w).length ≤ ts.length + 1 := by
  have h := congrArg List.length (putZ_keys ts k w)
  rw [List.length_map] at h
  rw [h]
  split
  · rw [List.length_map]; omega
  · rw [List.length_append, List.length_map]; exact Nat.le_refl _
def mergeZ (ts more : List (Str × Str)) : List (Str × Str) := more.foldl (fun acc p => putZ acc p.1 p.2) ts
theorem mergeZ_dz : ∀ (more ts : List (Str × Str)), mergeK (dz ts) (dz more) = dz (mergeZ ts more)
  | [], ts => rfl
  | p :: more, ts => by
    show mergeK (putK (dz ts) (Sum.inr p.1 : Key) (.str p.2)) (dz more) = dz (mergeZ (putZ ts p.1 p.2) more)
    rw [putZ_dz, mergeZ_dz more]
theorem mergeZ_nd : ∀ (more : List (Str × Str)) {ts : List (Str × Str)}, (ts.map (·.1)).Nodup → ((mergeZ ts more).map (·.1)).Nodup
  | [], _, h => h
  | p :: more, _, h => mergeZ_nd more (putZ_nd h p.1 p.2)
theorem mergeZ_len : ∀ (more ts : List (Str × Str)), (mergeZ ts more).length ≤ ts.length + more.length
  | [], ts => Nat.le_refl _
  | p :: more, ts => by
    have h1 := mergeZ_len more (putZ ts p.1 p.2)
    have h2 := putZ_len ts p.1 p.2
    show (mergeZ (putZ ts p.1 p.2) more).length ≤ _
    rw [List.length_cons]
    omega
/-! ### a permutation of images -/
theorem perm_map {α β : Type} (f : α → β) : ∀ {zs ys : List β}, zs.Perm ys → ∀ L : List α, ys = L.map f → ∃ L' : List α, L'.Perm L ∧ zs = L'.map f := by
  intro zs ys h
  induction h with
  | nil =>
    intro L e
    cases L with
    | nil => exact ⟨[], .nil, rfl⟩
    | cons _ _ => cases e
  | cons x _ ih =>
    intro L e
    cases L with
    | nil => cases e
    | cons a L =>
      obtain ⟨e1, e2⟩ := List.cons.inj e
      obtain ⟨L', p, r⟩ := ih L e2
      exact ⟨a :: L', p.cons a, by rw [List.map_cons, ← r, ← e1]⟩
  | swap x y l =>
    intro L e
    match L, e with
    | a :: b :: L, e =>
      obtain ⟨e1, e2⟩ := List.cons.inj e
      obtain ⟨e3, e4⟩ := List.cons.inj e2
      exact ⟨b :: a :: L, List.Perm.swap a b L, by rw [List.map_cons, List.map_cons, e1, e3, e4]⟩
  | trans _ _ ih1 ih2 =>
    intro L e
    obtain ⟨L1, p1, r1⟩ := ih2 L e
    obtain ⟨L2, p2, r2⟩ := ih1 L1 r1
    exact ⟨L2, p2.trans p1, r2⟩
/-! ### pairs of texts, sorted -/
def pd (q : Addr × (Str × Str)) : V × PyData := (.ref q.1, .tuple [.str q.2.1, .str q.2.2])
theorem sort_pairs {as : List Addr} {ts : List (Str × Str)} (hl : as.length = ts.length) : ∃ L : List (Addr × (Str × Str)), L.Perm (as.zip ts) ∧ sortD (as.map V.ref) (ts.map fun p => PyData.tuple [.str p.1, .str p.2]) = (L.map (·.1)).map V.ref := by
  have e : (as.map V.ref).zip (ts.map fun p => PyData.tuple [.str p.1, .str p.2]) = (as.zip ts).map pd := by
    rw [List.zip_map]
    rfl
  obtain ⟨L, p, r⟩ := perm_map pd (List.mergeSort_perm ((as.map V.ref).zip (ts.map fun p => PyData.tuple [.str p.1, .str p.2])) (PySem.W.dataLe false (·.2))) (as.zip ts) e
  refine ⟨L, p, ?_⟩
  unfold sortD
  rw [r, List.map_map, List.map_map]
  rfl
theorem pairs_alike (ts : List (Str × Str)) : PySem.W.AllAlike (ts.map fun p => PyData.tuple [.str p.1, .str p.2]) := by
  intro d hd d' hd'
  obtain ⟨p, _, rfl⟩ := List.mem_map.mp hd
  obtain ⟨q, _, rfl⟩ := List.mem_map.mp hd'
  rfl
theorem pairs_sortable (ts : List (Str × Str)) : PySem.W.Sortable (ts.map fun p => PyData.tuple [.str p.1, .str p.2]) := by
  refine .inl fun d hd => ?_
  obtain ⟨p, _, rfl⟩ := List.mem_map.mp hd
  exact ⟨_, _, rfl⟩
theorem pairs_depth (ts : List (Str × Str)) : ∀ d ∈ ts.map (fun p => PyData.tuple [.str p.1, .str p.2]), d.depth ≤ 60 := by
  intro d hd
  obtain ⟨p, _, rfl⟩ := List.mem_map.mp hd
  simp only [PyData.depth, PyData.depthAll]
  decide
theorem paired_zip {α β : Type} {F : α → β → Prop} : ∀ {l : List α} {m : List β}, Paired F l m → ∀ q ∈ l.zip m, F q.1 q.2
  | _, _, .nil, q, h => by cases h
  | _, _, .cons x t, q, h => by
    rw [List.zip_cons_cons] at h
    rcases List.mem_cons.mp h with rfl | h
    · exact x
    · exact paired_zip t q h
theorem paired_of {α β : Type} {F : α → β → Prop} : ∀ L : List (α × β), (∀ q ∈ L, F q.1 q.2) → Paired F (L.map (·.1)) (L.map (·.2))
  | [], _ => .nil
  | q :: L, h => .cons (h q (List.mem_cons_self ..)) (paired_of L fun x hx => h x (List.mem_cons_of_mem _ hx))
theorem paired_mapR {α β γ : Type} {F : α → γ → Prop} (g : β → γ) : ∀ {l : List α} {m : List β}, Paired F l (m.map g) → Paired (fun a b => F a (g b)) l m
  | _, [], .nil => .nil
  | _, _ :: _, .cons x t => .cons x (paired_mapR g t)
theorem paired_mapR' {α β γ : Type} {F : α → γ → Prop} (g : β → γ) : ∀ {l : List α} {m : List β}, Paired (fun a b => F a (g b)) l m → Paired F l (m.map g)
  | _, _, .nil => .nil
  | _, _, .cons x t => .cons x (paired_mapR' g t)
theorem dp_pairs {K : PySem.W.Frag} {H : Hp} : ∀ {as : List Addr} {ts : List (Str × Str)}, Paired (fun (t : Addr) (p : Str × Str) => H t = some (.tup [.str p.1, .str p.2])) as ts → DpAll K H (as.map V.ref) (ts.map fun p => PyData.tuple [.str p.1, .str p.2])
  | _, _, .nil => .nil
  | _, _, .cons x t => .cons (.tup (stt x) (.cons (.str _) (.cons (.str _) .nil))) (dp_pairs t)
end HS
/-! y = {k: v for ..}: a dict comprehension given to a local name -/
namespace HD
open PySem PySem.Spec PySem.Calls PyProof.Rows L2
section
variable {X : Cx}
theorem sw_dict {kx vx : Expr} {gs : List Comprehension} {scope : Scope} {pos py : Pos} {y : Str} {l : Nat} {env : Env} (hk : env.scope.kind = .function) (hy : env.scope.names.lookup y = some .local) (hl : (py.line == pos.line) = true)
    (ha : (scope.names.any fun (n, k) => n == y && (k == .local || k == .cell)) = false) : swapsWith (.DictComp kx vx gs scope pos) (some (.Name y py)) l env = pure true := by
  have k1 : env.blockKind = .function := by
    unfold Env.blockKind
    rw [hk] <;> rfl
  have k2 : env.kindOf y = some .local := hy
  unfold swapsWith
  simp only [k1, k2, ha, Expr.pos, hl]
  rfl
theorem ps_setDc {i : Nat} {y : Str} {py : Pos} {kx vx tg iter : Expr} {ifs : List Expr} {scope : Scope} {own : List (Str × Nat)} {pos spos : Pos} {wi : TI} {g : TG} {tt : TT} {tk tv : TE} (hc : X.calm = true) (hN : X.N.Nodup) (hy : X.N[i]? = some y) (hyl : X.env.scope.names.lookup y = some .local)
    (hsw : swapsWith (.DictComp kx vx [⟨tg, iter, ifs, 0⟩] scope pos) (some (.Name y py)) spos.line X.env = pure true) (hi : PI X tg iter wi) (ok : BlkOk X.N X.env.scope scope own)
    (hg : ∀ (s : Shared) (H : Hp) (C : Addr) (cl : List (Str × Addr)) (fp : List Addr), PG (X.blk s H scope (compEnvC scope cl C X.env) fp) tg g) (ht : ∀ (s : Shared) (H : Hp) (C : Addr) (cl : List (Str × Addr)) (fp : List Addr), PTs (X.blk s H scope (compEnvC scope cl C X.env) fp) ifs tt)
    (hk : ∀ (s : Shared) (H : Hp) (C : Addr) (cl : List (Str × Addr)) (fp : List Addr), PE (X.blk s H scope (compEnvC scope cl C X.env) fp) kx tk)
    (he : ∀ (s : Shared) (H : Hp) (C : Addr) (cl : List (Str × Addr)) (fp : List Addr), PE (X.blk s H scope (compEnvC scope cl C X.env) fp) vx tv) (hs : ∀ x, foldedSetIterable iter X.env x = pure x := by intro _; rfl) :
    PS X (.Assign [.Name y py] (.DictComp kx vx [⟨tg, iter, ifs, 0⟩] scope pos) spos) (tAsg (tDc wi g tt tk tv (own.map (·.2))) (gName i)) := by
  refine ⟨fun pins s σ H D I h => ?_⟩
  rw [exec_Assign_Name_used _ _ _ _ hsw]
  refine wpAny_bind (wpAny_standAt (wpAny_bind ?_))
  show wpAny _ X.A (do let _ ← comprehension (.DictComp kx vx [⟨tg, iter, ifs, 0⟩] scope pos) scope X.env (firstIterPos [⟨tg, iter, ifs, 0⟩] pos) newDict false (eval iter X.env) (some (assign (.Name y py) X.env))) _ _ s
  have h : tDc wi g tt tk tv (own.map (·.2)) σ H (fun x H1 => gName i x σ H1 D.nx) := h
  refine wpAny_bind (thn (dc_core (Qf := fun _ s' => SP X pins D .next s') hc hN I hi ok hg ht hk he hs h fun L C s' m H' I' q hn f => ?_) fun _ s' hq => wpAny_pure (wpAny_pure hq))
  show wpAny _ _ (assign (.Name y py) X.env (.ref L)) _ _ _
  refine wpAny_assign_Name (store_ok2 (v := V.ref L) I' hN hy (.inl hyl) rfl (fun s2 I2 ⟨a, sb, ha⟩ => ?_) (.inr hyl))
  obtain ⟨f0, f1, f2, f3, f4, f5⟩ := f
  have haC : C ≠ a := ha.elim (fun z => z ▸ f1) fun z e => f4 y a z e.symm
  exact ⟨m, hn.sameBut sb haC, fun h3 sb3 => ⟨_, H', I2.turned (t' := s2.toks) (fun b o hb e => (sb3.2 b hb).trans e) f0 f1 f3 f4 f5, q⟩⟩
end
end HD
/-! tuples: t + u of any two; t[lo:hi], the whole too -/
namespace HT2
open PySem PySem.Spec PySem.Calls PyProof.Rows L2 HT
section
variable {X : Cx}
/-- t + u: the other one where one of them is empty -/
def rCatA (K : PySem.W.Frag) : R2 := fun x y H Q => ∃ a b xs ys, x = .ref a ∧ y = .ref b ∧ SqT K H a xs ∧ SqT K H b ys ∧ xs.length + ys.length ≤ sizeLine ∧
  (xs = [] → Q (.ref b) H) ∧ (xs ≠ [] → ys = [] → Q (.ref a) H) ∧ (xs ≠ [] → ys ≠ [] → ∀ p, H p = none → Q (.ref p) (upd H p (.tup (xs ++ ys))))
theorem op_catA : OpR X (binaryOp .Add) (rCatA X.K) := by
  intro pins s σ H x y v u Q I rx ry h
  obtain ⟨a, b, xs, ys, rfl, rfl, ha, hb, hz, q0, q1, q2⟩ := h
  by_cases hx : xs = []
  · subst hx
    cases rx
    cases ry
    obtain ⟨its, r1, p1, _⟩ := I.tuple ha
    obtain ⟨its2, r2, p2, _⟩ := I.tuple hb
    cases r1
    obtain ⟨⟨c1, d1, t1, l1⟩, o1, k1, n1, m1⟩ := id p1
    obtain ⟨⟨c2, d2, t2, l2⟩, o2, k2, n2, m2⟩ := id p2
    simp only at k1 m1 k2 m2
    subst k1 m1 k2 m2
    exact concat_meets ⟨_, o1, rfl⟩ ⟨_, o2, rfl⟩ noFill_tuple_add seq_tuple_add PySem.F.slot_tuple_add PySem.F.entry_tuple_add (PySem.F.args_tuple_add_2 _ _)
      (tuple_addW0 a b _ its2.toArray n1 n2 d1 d2 l1 l2 (by simp)) ⟨o1, o2, .ref b, H, I, rfl, q0 rfl⟩
  · exact op_catT pins s σ H _ _ v u Q I rx ry ⟨a, b, xs, ys, rfl, rfl, ha, hb, hx, hz, q1 hx, q2 hx⟩
/-- the whole of a tuple is the tuple -/
theorem slice_whole {prog : Program} {w : World} {A : Around} {E : Value → Shared → Prop} {s : Shared} {t sl : Addr} {items : Array Value} {vl vu : Value} {lo hi : Option Int} {Q : Value → Shared → Prop} (ht : IsTup s.heap t items) (hs : s.heap.IsSliceOf sl vl vu .none) (pl : IsPart vl lo) (pu : IsPart vu hi)
    (hw : sIx items.size 0 lo = 0 ∧ sIx items.size items.size hi = items.size) (h : Q (.ref t) s) : wpAny (model prog w) A (getItem (.ref t) (.ref sl)) Q E s := by
  obtain ⟨os, hos, hcs, hds⟩ := id hs
  have hTs : s.TypeIs (.ref sl) "slice" := ⟨os, hos, hcs⟩
  unfold getItem
  refine wpAny_holding ?_
  refine wpAny_bind (wpAny_sequenceKey ht.typeIs (by decide) ?_)
  refine wpAny_bind (wpAny_callSpecial?_slot (name := Str.ofString "__getitem__") ht.typeIs PyProof.Rows.slot_tuple_getitem
    (wpAny_call_entry PyProof.Rows.slot_tuple_getitem ht.typeIs entry_tuple_getitem ?_ (args_tuple_getitem _ _)))
  show wpAny _ _ (Builtin.Tuple.tupleItemsOf (.ref t) >>= _) _ _ s
  refine wpAny_bind (tupleItemsOf_ ht ?_)
  refine wpAny_bind (wpAny_typeOf hTs ?_)
  rw [if_pos (by decide)]
  refine wpAny_bind (sliceApplied_gen hs pl pu ?_)
  have yes : (((sIx items.size 0 lo : Nat) : Int) == 0 && (1 : Int) == 1 && (sIx items.size items.size hi - sIx items.size 0 lo) == items.size) = true := by
    rw [hw.1, hw.2]
    simp
  show wpAny _ _ (if (((sIx items.size 0 lo : Nat) : Int) == 0 && (1 : Int) == 1 && (sIx items.size items.size hi - sIx items.size 0 lo) == items.size) = true then _ else _) _ _ s
  rw [if_pos yes]
  unfold Builtin.Tuple.tupleIsExact
  refine wpAny_bind (wpAny_bind (wpAny_typeOf ht.typeIs (wpAny_pure ?_)))
  rw [if_pos (by decide)]
  exact wpAny_bind (wpAny_rule (wpAny_pure ⟨_, rfl, wpAny_pure h⟩))
/-- t[lo:hi] -/
def rSlA (K : PySem.W.Frag) : V → Option Int → Option Int → Hp → VK → Prop := fun x lo hi H Q => ∃ a xs, x = .ref a ∧ SqT K H a xs ∧
  (HT.sIx xs.length 0 lo = 0 ∧ HT.sIx xs.length xs.length hi = xs.length → Q (.ref a) H) ∧ (¬ (HT.sIx xs.length 0 lo = 0 ∧ HT.sIx xs.length xs.length hi = xs.length) → ∀ p, H p = none → Q (.ref p) (upd H p (.tup (cutV xs lo hi))))
theorem sl_tupA : SlR X (rSlA X.K) := by
  intro pins s σ H x v vl vu lo hi sl Q I rx hs pl pu h
  obtain ⟨a, xs, rfl, hx, q1, q2⟩ := h
  by_cases hw : HT.sIx xs.length 0 lo = 0 ∧ HT.sIx xs.length xs.length hi = xs.length
  · cases rx
    obtain ⟨its, r, ht, hz⟩ := I.tuple hx
    have hlen : its.toArray.size = xs.length := by rw [List.size_toArray]; exact r.length.symm
    refine ⟨"tuple", _, PyProof.Rows.slot_tuple_getitem.lookup, ht.typeIs, ?_⟩
    exact slice_whole ht hs pl pu (by rw [hlen]; exact hw) ⟨.ref a, H, I, rfl, q1 hw⟩
  · exact sl_tup pins s σ H _ v vl vu lo hi sl Q I rx hs pl pu ⟨a, xs, rfl, hx, hw, q2 hw⟩
end
end HT2
/-! set(xs) of a list of texts: any number of them; len(set(xs)) -/
namespace HV
open PySem PySem.Spec PyProof.Rows
/-- how many unlike ones among the first i -/
def uq (xs : List Str) : Nat → Nat
  | 0 => 0
  | i + 1 => if (xs.take i).any (· == xs.getD i Str.empty) then uq xs i else uq xs i + 1
theorem uq_le (xs : List Str) : ∀ i, uq xs i ≤ i
  | 0 => Nat.le_refl _
  | i + 1 => by
    have := uq_le xs i
    unfold uq
    split <;> omega
theorem any_take {xs : List Str} {i : Nat} (h : i < xs.length) (k : Str) : ((xs.take i).any (· == k) || decide (k = xs.getD i Str.empty)) = (xs.take (i + 1)).any (· == k) := by
  have e : xs.getD i Str.empty = xs[i] := by rw [List.getD_eq_getElem?_getD, List.getElem?_eq_getElem h]; rfl
  rw [List.take_add_one, List.getElem?_eq_getElem h, List.any_append, e]
  congr 1
  show decide (k = xs[i]) = ([xs[i]].any (· == k))
  rw [List.any_cons, List.any_nil, Bool.or_false]
  exact Bool.eq_iff_iff.mpr ⟨fun q => beq_iff_eq.mpr (of_decide_eq_true q).symm, fun q => decide_eq_true (beq_iff_eq.mp q).symm⟩
theorem uq_all {xs : List Str} : ∀ i, i ≤ xs.length → (uq xs i = i ↔ (xs.take i).Nodup)
  | 0, _ => by simp [uq]
  | i + 1, hi => by
    have ih := uq_all i (Nat.le_of_succ_le hi)
    have hl := uq_le xs i
    have e : xs.getD i Str.empty = xs[i] := by rw [List.getD_eq_getElem?_getD, List.getElem?_eq_getElem hi]; rfl
    have e2 : xs.take (i + 1) = xs.take i ++ [xs[i]] := by rw [List.take_add_one, List.getElem?_eq_getElem hi]; rfl
    rw [e2, List.nodup_append]
    unfold uq
    rw [e]
    cases hb : (xs.take i).any (· == xs[i]) with
    | true =>
      rw [if_pos rfl]
      obtain ⟨y, hy, ey⟩ := List.any_eq_true.mp hb
      refine ⟨fun q => by omega, fun q => ?_⟩
      exact absurd (beq_iff_eq.mp ey) (q.2.2 y hy xs[i] (List.mem_singleton.mpr rfl))
    | false =>
      rw [if_neg Bool.false_ne_true]
      refine ⟨fun q => ⟨ih.mp (by omega), (by simp), fun a ha b hb2 ab => ?_⟩, fun q => by have := ih.mpr q.1; omega⟩
      rw [List.mem_singleton.mp hb2] at ab
      have : (xs.take i).any (· == xs[i]) = true := List.any_eq_true.mpr ⟨a, ha, beq_iff_eq.mpr ab⟩
      rw [hb] at this
      cases this
section
variable {prog : Program} {w : World} {A : Around} {R : Result → Shared → Prop} {I : Addr} {fp wr : List Addr} {G : Array GenState → Array GenState → Prop} {n : Nat} {P : Nat → Value → Prop} {St : Nat → Shared → Prop}
/-- the set after i of the texts -/
def At (prog : Program) (w : World) (xs : List Str) (S : Addr) (i : Nat) (h : Heap) : Prop := h.SetOf (PySem.strKind prog w) S (fun k' => (xs.take i).any (· == k')) (uq xs i)
theorem At.keep {xs : List Str} {S : Addr} {i : Nat} {h h' : Heap} (a : At prog w xs S i h) (k : ∀ o, h.get? S = some o → h'.get? S = some o) : At prog w xs S i h' := by
  obtain ⟨o, es, ep, t, ho, rest⟩ := a
  exact ⟨o, es, ep, t, k o ho, rest⟩
theorem loopV (W : WalksS prog w A.in1 I fp wr G n P St) (S : Addr) (nf : S ∉ fp) (xs : List Str) (len : xs.length = n) (few : n + 1 < scanBound) (val : ∀ i v, P i v → ∃ t, v = .str (xs.getD i Str.empty) t) :
    ∀ (d i : Nat) (s : Shared), i + d = n → St i s → At prog w xs S i s.heap → (∀ s', Moved (S :: wr) G s s' → At prog w xs S n s'.heap → R (.ok (.ret .none)) s') →
      codeAny (model prog w) A (.builtin "set.update.loop" ⟨[.ref S, .ref I], []⟩) R s := by
  have nw : S ∉ wr := fun h => nf (W.sub _ h)
  have grow : ∀ b ∈ wr, b ∈ S :: wr := fun b hb => List.mem_cons_of_mem _ hb
  intro d
  induction d with
  | zero =>
    rintro i s rfl hst hS hR
    refine codeAny_builtin PyProof.Rows.F.entry_set_update_loop ?_
    rw [Around.under_plainId PyProof.Rows.F.plain_set_update_loop _]
    show wpAny _ A.in1 (pyNext (.ref I) >>= _) _ _ s
    refine wpAny_bind (W.done s _ _ hst fun s' mv => ?_)
    exact wpAny_pure (hR s' (mv.mono grow) (hS.keep fun o => mv.heap S o nw))
  | succ d ih =>
    intro i s hi hst hS hR
    have lt : i < n := by omega
    refine codeAny_builtin PyProof.Rows.F.entry_set_update_loop ?_
    rw [Around.under_plainId PyProof.Rows.F.plain_set_update_loop _]
    show wpAny _ A.in1 (pyNext (.ref I) >>= _) _ _ s
    refine wpAny_bind (W.item i s _ _ lt hst fun v s' pv hst' mv => ?_)
    obtain ⟨t, rfl⟩ := val i v pv
    have hS' := hS.keep fun o => mv.heap S o nw
    show wpAny _ A.in1 (holding [Value.str (xs.getD i Str.empty) t] (setAdd S (.str (xs.getD i Str.empty) t)) >>= _) _ _ s'
    refine wpAny_bind (wpAny_holding ?_)
    unfold setAdd
    refine wpAny_holding (wpAny_bind ((PySem.strKind prog w).pyHash (k := xs.getD i Str.empty) (strKind_is _ _ _ _) ?_))
    refine wpAny_setAddHashed_of (knd := PySem.strKind prog w) (s := { s' with toks := s'.toks + 1 }) (strKind_is _ _ _ _) rfl hS' (by have := uq_le xs i; omega) fun h' same hS2 => ?_
    have next : At prog w xs S (i + 1) h' := PyProof.Rows.SetOf_congr hS2 (fun k => any_take (by omega) k) rfl
    refine wpAny_pure ⟨plainId_quiet PyProof.Rows.F.plain_set_update_loop _, ih (i + 1) _ (by omega) (W.frame _ s' _ _ hst' (Nat.le_succ _) fun b hb o e => ?_) next fun s'' mv2 hS3 => hR s'' (Moved.trans W.gtrans ((mv.mono grow).then_heap (Nat.le_succ _) fun b o hb e => ?_) mv2) hS3⟩
    · rw [same.2 b (fun h => nf (h ▸ hb))]
      exact e
    · rw [same.2 b (fun h => hb (h ▸ List.mem_cons_self))]
      exact e
end
section
variable {prog : Program} {w : World} {A : Around} {E : Value → Shared → Prop} {s : Shared}
/-- the empty set that set.__new__ lays -/
abbrev bare (led : Bool) : Obj := { cls := .type "set", dict := none, data := .set #[] 0 (.fresh 0 0 led) }
set_option maxHeartbeats 3200000 in
theorem set_texts {l : Addr} {items : Array Value} {xs : List Str} {Q : Value → Shared → Prop} (calm : A.handled = none) (hl : s.heap.IsList l items) (hi : PyProof.Rows.StrsAre items.toList xs) (few : xs.length + 1 < scanBound)
    (h : ∀ (h' : Heap) (tk : Nat), At prog w xs s.heap.objs.size xs.length h' → (∀ b o, b < s.heap.objs.size → s.heap.get? b = some o → h'.get? b = some o) → Q (.ref s.heap.objs.size) { s with heap := h', toks := tk }) :
    wpAny (model prog w) A (call (.type "set") [.ref l]) Q E s := by
  have len : xs.length = items.size := by rw [← StrsAre.len_eq hi, Array.length_toList]
  obtain ⟨c, tl, hmro⟩ := PySem.F.called_set.mro
  have hmade := PySem.F.called_set.made
  have hsub := PySem.F.called_set.sub
  have h1 := PySem.F.called_set.notType
  have h2 := PySem.F.called_set.canCreate
  have hct := PySem.F.typeCall_set_1 (.ref l)
  refine wpAny_call (codeAny_of_tree ?_)
  show wpAny _ _ (callAny (.type "set") _) _ _ _
  refine wpAny_pure ⟨Code.quiet_builtin _ (by decide +kernel), codeAny_builtin PySem.F.entry_type_call ?_⟩
  rw [Around.under_plain (weight_type_call_type "set" [.ref l] []) rfl]
  repeat (any_goals (first | assumption | wp_step))
  refine codeAny_mono (code_set_new_1 (.ref l) (E := E) (Q₁ := fun obj s₁ => ∃ led, obj = .ref s.heap.objs.size ∧ s₁ = { s with heap := s.heap.push (bare led) }) fun led => ⟨led, rfl, rfl⟩) fun r s₁ hr => ?_
  rcases r with e | fl
  · exact hr
  cases fl with
  | ret obj =>
    obtain ⟨led, rfl, rfl⟩ := hr
    have hS : (s.heap.push (bare led)).get? s.heap.objs.size = some (bare led) := Heap.get?_push_size _ rfl
    have hT : Shared.TypeIs { s with heap := s.heap.push (bare led) } (.ref s.heap.objs.size) "set" := ⟨_, hS, rfl⟩
    have hli := PySem.F.called_set.init.lookup
    have hbi := PySem.F.called_set.init.bind (.ref s.heap.objs.size)
    repeat (any_goals (first | assumption | wp_step))
    refine codeAny_mono (codeAny_call_builtin (R := wants (fun r s₂ => r = .none ∧ ∃ h' tk, s₂ = { s with heap := h', toks := tk } ∧ At prog w xs s.heap.objs.size xs.length h' ∧ (∀ b o, b < s.heap.objs.size → s.heap.get? b = some o → h'.get? b = some o)) E)
      PySem.F.called_set.init.plain PySem.F.entry_set_init (check_set_init_1 hT ?_)) fun r₂ s₂ hr₂ => ?_
    · obtain ⟨⟨ocls, odict, odata, oslots⟩, hol, hcl, nl, hdl⟩ := hl
      simp only at hcl hdl
      subst hcl; subst hdl
      have hlS : l < s.heap.objs.size := Heap.lt_size hol
      have hol' := Heap.get?_push_of_some (bare led) hol
      have hl1 : (s.heap.push (bare led)).IsList l items := ⟨_, hol', rfl, nl, rfl⟩
      have hsls := PySem.F.sub_list_set
      have hslf := PySem.F.sub_list_frozenset
      have hne : (Value.type "list" == Value.type "dict") = false := by decide
      unfold Builtin.«set.__init__» noKeywords Builtin.Frozenset.updateFrom
      generalize hPI : pyIter = PI
      wp_walk
      subst hPI
      refine wpAny_pyIter_list hl1 (wpAny_bind (wpAny_runValue ?_))
      have sz : (s.heap.push (bare led)).objs.size = s.heap.objs.size + 1 := Heap.size_push ..
      have calm3 : A.in1.in1.in1.handled = none := by simp [calm]
      have hval : ∀ (i : Nat) (v : Value), items[i]? = some v → ∃ t, v = .str (xs.getD i Str.empty) t := fun i v hv => SS.strs_at hi i v (by rw [Array.getElem?_toList]; exact hv)
      refine loopV (n := items.size) ((Walks.list calm3 _ l (by rw [sz]; exact Nat.ne_of_lt (Nat.lt_succ_of_lt hlS)) items).toS) s.heap.objs.size (by rw [sz]; simp only [List.mem_cons, List.not_mem_nil, or_false, not_or]; exact ⟨Nat.ne_of_lt (Nat.lt_succ_self _), Nat.ne_of_gt hlS⟩) xs len (by omega) hval items.size 0 _ (by omega)
        ⟨⟨_, Heap.get?_push_size _ rfl, rfl, rfl⟩, (hl1.push _)⟩ ?zS ?zR
      case zS =>
        have hget := Heap.get?_push_of_some ({ cls := .type "list_iterator", data := .fields #[.ref l, .int 0 0] } : Obj) hS
        exact PyProof.Rows.SetOf_congr ((PyProof.Rows.setObjOf_fresh (knd := PySem.strKind prog w) led).setOf hget (by unfold scanBound; omega)) (fun _ => rfl) rfl
      case zR =>
        intro s' mv hS'
        obtain ⟨h', g', d', tk', os'⟩ := s'
        cases (show g' = s.gens from mv.gens)
        cases (show d' = s.drawn from mv.drawn)
        cases (show os' = s.os from mv.os)
        refine wpAny_pure (wpAny_pure ⟨rfl, h', tk', rfl, by rw [len]; exact hS', fun b o hb e => ?_⟩)
        exact mv.heap b o (by rw [sz]; simp only [List.mem_cons, List.not_mem_nil, or_false, not_or]; exact ⟨Nat.ne_of_lt hb, Nat.ne_of_lt (Nat.lt_succ_of_lt hb)⟩) (Heap.get?_push_of_some _ (Heap.get?_push_of_some _ e))
    · rcases r₂ with e | fl₂
      · exact hr₂
      cases fl₂ with
      | ret r =>
        obtain ⟨rfl, h', tk, rfl, hS', hk'⟩ := hr₂
        repeat (any_goals (first | assumption | wp_step))
        exact h _ _ hS' hk'
      | _ => exact hr₂.elim
  | _ => exact hr.elim
end
section
open L2
/-- len(set(xs)), xs a list of texts -/
def tLenSetS (K : PySem.W.Frag) (ta : TE) : TE := fun σ H Q => ta σ H fun x H1 => ∃ (l : Addr) (xs : List Str), x = .ref l ∧ SqL K H1 l (xs.map V.str) ∧ xs.length ≤ 1000 ∧ Q (.int (uq xs xs.length : Nat)) H1
theorem pe_lenSetS {X : Cx} {a : Expr} {ta : TE} {p p2 q pos : Pos} (hg : Gl X "len") (hm : X.mg "len" = none) (hg2 : Gl X "set") (hm2 : X.mg "set" = none) (ha : PE X a ta) (hc : X.calm = true := by rfl)
    (na : starEach [a] X.env = (false, eval a X.env) :: starEach [] X.env := by rfl) : PE X (.Call (.Name "len" p) [.Call (.Name "set" p2) [a] [] q] [] pos) (tLenSetS X.K ta) := by
  refine ⟨fun pins s σ H Q I h => ?_⟩
  refine Call_ (ld_blt I hg hm boot_len (PyProof.Rows.callWith_builtin1 (PyProof.Rows.args_cons ?_ rfl) rfl rfl))
  refine Call_ (ld_blt I hg2 hm2 boot_set (PyProof.Rows.callWith_type1 (PyProof.Rows.args_cons (thn (ha.run pins s σ H _ I h) fun v s1 ⟨x, H1, I1, r1, q1⟩ => PyProof.Rows.args_nil ?_) na) na rfl))
  obtain ⟨l, xs, rfl, hq, hl, q1⟩ := q1
  cases r1
  obtain ⟨its, r, pl, _⟩ := I1.list hq
  refine set_texts (I1.ok.hd hc) pl.isList (by simpa using strsAre_of r) (by unfold scanBound; omega) fun h' tk hS hk => PyProof.Rows.args_nil ?_
  obtain ⟨o, es, ep, t, ho, hex, hd, _, _, _, hf, hn⟩ := hS
  have I2 : Inv X pins σ H1 { s1 with heap := h', toks := tk } := I1.kept fun b o e => hk b o (Heap.lt_size e) e
  have hu := uq_le xs xs.length
  exact call_len_set ho hex hd hf (by rw [hn] <;> omega) ⟨.int (uq xs xs.length), H1, I2.tok _, ⟨_, by rw [hn]⟩, q1⟩
end
end HV
/-! Base.__init__(self, ..): an own class over ValueError that has no __init__ of its own -/
namespace HY
open PySem PySem.Spec PyProof.Rows L2
/-- what the written part says of the base -/
structure BaseI (K : PySem.W.Frag) (Y : Addr) : Prop where
  ga : PySem.W.specialIn K (.ref Y) "__getattribute__" = some (some (.builtin "type.__getattribute__"))
  ty : PySem.W.typeIn K (.ref Y) = some (.type "type")
  rd : PySem.W.readsIn K Y (.type "type") = true
  it : PySem.W.findCls K (.ref Y) (.type "type") "__init__" = some (.val (.builtin "ValueError.__init__"))
section
variable {X : Cx} {e : Expr} {es : List Expr} {ta : TA} {x : Str} {Y : Addr} {p1 p2 pos : Pos}
theorem pe_baseinit {pl : Sem Bool} (B : BaseI X.K Y) (hg : Gl X x) (hm : X.mg x = some (.ref Y)) (ha : PA X (e :: es) ta) (hdb : (x == ("__debug__" : Str)) = false := by decide)
    (hc : eval (.Call (.Attribute (.Name x p1) "__init__" p2) (e :: es) [] pos) X.env = (do
      let ov ← eval (.Name x p1) X.env
      standAt p2.atName
      let (f, first) ← holding [ov] (getMethod ov "__init__" pl)
      callWith pos f first (backTo pos (starEach (e :: es) X.env)) (backToKw pos (keywordEach [] X.env))) := by rfl)
    (he : starEach (e :: es) X.env = (false, eval e X.env) :: starEach es X.env := by rfl) (hpl : (backTo pos (starEach es X.env)).any (·.1) = false := by rfl) :
    PE X (.Call (.Attribute (.Name x p1) "__init__" p2) (e :: es) [] pos) (tVeI X.K ta) := by
  refine ⟨fun pins s σ H Q I h => ?_⟩
  refine PySem.W.methodCall_KW (ld_glob I hg hm ?_ hdb) hc
  obtain ⟨m, fr⟩ := I.fr
  refine PySem.W.method_of_cls fr I.ok.mod.kin B.ga (PySem.W.cls_val fr I.ok.mod.kin B.ty B.rd B.it (by decide +kernel) ?_)
  show wpAny _ _ (callWith pos (Value.builtin "ValueError.__init__") [] (backTo pos (starEach (e :: es) X.env)) []) _ _ _
  refine PyProof.Rows.callWith_method1 (thn (ha.run pos pins _ σ H _ (I.tok _) h) fun us s1 ⟨vs, H1, I1, r1, a, C, ws, ev, hl, T, ea, q⟩ => ?_) he hpl
  subst ev
  cases r1 with
  | @cons _ u0 _ ur ra rw' =>
    obtain rfl : u0 = Value.ref a := ra
    have hlen : ur.length ≤ sizeLine := by
      rw [← Paired.length rw', sizeLine_eq]
      omega
    exact oinit_ok T I1 ea hlen fun s' J => ⟨.non, H1, J, rfl, q⟩
end
end HY
/-! own exception classes told by the head; raise C(e); C(e, k = v) that may raise in a try -/
namespace HQ
open PySem PySem.Spec PySem.Calls PyProof.Rows L2 He
/-! ### what the head tells of such a class -/
def exB1 (K : PySem.W.Frag) (C : Addr) : Bool := match K.lookup C with
  | some ⟨.type t, _, .cls cd, sl⟩ => (match cd.mro, sl.toList with
    | .ref D :: bm, [_, _, _, _, some (.builtin n), _] => decide (t = "type") && (decide (D = C) && (decide (n = "ValueError.__new__") && (!cd.hasDel && (cd.hasDict && PySem.HandSPX.refsVE bm))))
    | _, _ => false)
  | _ => false
def exB (K : PySem.W.Frag) (C : Addr) : Bool := exB1 K C && (decide (PySem.W.findIn K (.ref C) "__setattr__" = some (some (.builtin "object.__setattr__"))) &&
  (decide (PySem.W.subIn K (.ref C) (.type "BaseException") = some true) && (decide (PySem.W.typeIn K (.ref C) = some (.type "type")) && (PySem.W.keepIn K (.ref C) && xfB K C))))
theorem exB1_ok {K : PySem.W.Frag} {C : Addr} (h : exB1 K C = true) : ∃ nm q N bs bm sn sub ab col dd k0 k1 k2 k3 k5, K.lookup C = some (excClassObj nm q C N bs bm true sn sub ab col dd k0 k1 k2 k3 k5 "ValueError.__new__") ∧ PySem.HandSPX.refsVE bm = true := by
  unfold exB1 at h
  split at h
  · rename_i t dd cd sl ho
    split at h
    · rename_i D bm k0 k1 k2 k3 n k5 hm hs
      obtain ⟨e1, h⟩ := ba h
      obtain ⟨e2, h⟩ := ba h
      obtain ⟨e3, h⟩ := ba h
      obtain ⟨e4, h⟩ := ba h
      obtain ⟨e5, e6⟩ := ba h
      have e1 := of_decide_eq_true e1
      have e2 := of_decide_eq_true e2
      have e3 := of_decide_eq_true e3
      obtain ⟨nm, bs, mro, ns, qn, hd, sn, sub, ab, col, del⟩ := cd
      dsimp only at hm e4 e5
      subst hm e1 e2 e3 e5
      have e4 : del = false := by cases del <;> first | rfl | cases e4
      subst e4
      have hsl : sl = #[k0, k1, k2, k3, some (.builtin "ValueError.__new__"), k5] := by
        obtain ⟨l⟩ := sl
        simp only at hs
        rw [hs]
      subst hsl
      exact ⟨nm, qn, ns, bs, bm, sn, sub, ab, col, dd, k0, k1, k2, k3, k5, ho, e6⟩
    · cases h
  · cases h
theorem exB_ok {K : PySem.W.Frag} {C : Addr} (h : exB K C = true) : OexC K C ∧ XfC K C := by
  obtain ⟨h1, h⟩ := ba h
  obtain ⟨h2, h⟩ := ba h
  obtain ⟨h3, h⟩ := ba h
  obtain ⟨h4, h⟩ := ba h
  obtain ⟨h5, h6⟩ := ba h
  exact ⟨⟨exB1_ok h1, of_decide_eq_true h2, of_decide_eq_true h3, of_decide_eq_true h4, h5⟩, xfB_ok h6⟩
def inB (K : PySem.W.Frag) (C : Addr) : Bool := decide (PySem.W.findIn K (.ref C) "__init__" = some (some (.ref (ma K C "__init__")))) && decide (PySem.W.typeIn K (.ref (ma K C "__init__")) = some (.type "function"))
theorem inB_ok {K : PySem.W.Frag} {C : Addr} (h : inB K C = true) : PySem.W.findIn K (.ref C) "__init__" = some (some (.ref (ma K C "__init__"))) ∧ PySem.W.typeIn K (.ref (ma K C "__init__")) = some (.type "function") := by
  obtain ⟨h1, h2⟩ := ba h
  exact ⟨of_decide_eq_true h1, of_decide_eq_true h2⟩
/-- the base whose __init__ is ValueError's -/
def bsB (K : PySem.W.Frag) (Y : Addr) : Bool := decide (PySem.W.specialIn K (.ref Y) "__getattribute__" = some (some (.builtin "type.__getattribute__"))) && (decide (PySem.W.typeIn K (.ref Y) = some (.type "type")) &&
  (PySem.W.readsIn K Y (.type "type") && (match PySem.W.findCls K (.ref Y) (.type "type") "__init__" with
    | some (.val (.builtin n)) => decide (n = "ValueError.__init__")
    | _ => false)))
theorem bsB_ok {K : PySem.W.Frag} {Y : Addr} (h : bsB K Y = true) : HY.BaseI K Y := by
  obtain ⟨h1, h⟩ := ba h
  obtain ⟨h2, h⟩ := ba h
  obtain ⟨h3, h4⟩ := ba h
  refine ⟨of_decide_eq_true h1, of_decide_eq_true h2, h3, ?_⟩
  cases e : PySem.W.findCls K (.ref Y) (.type "type") "__init__" with
  | none => rw [e] at h4; cases h4
  | some r =>
    rw [e] at h4
    cases r with
    | val u =>
      cases u with
      | builtin n =>
        have e2 : n = "ValueError.__init__" := of_decide_eq_true h4
        rw [e2]
      | _ => cases h4
    | _ => cases h4
/-! ### raise C(e) -/
/-- __init__(self, y): self.f = y, and no more -/
def spEx (C : Addr) (f : Str) : Sp := fun vs H Q _ => ∃ (a : Addr) (y : V), vs = [.ref a, y] ∧ H a = some (exo a C none) ∧ ∀ d, H d = none → d ≠ a → Q .non (upd (upd H d (exd d [(f, y)])) a (exo a C (some d)))
/-- behind the making: the new error's own dict -/
theorem mkO_of {C : Addr} {f : Str} {y : V} {H : Hp} {Q : XK} (h : ∀ d, H d = none → Q (.ref C) (some d) (upd H d (.xd [(f, y)]))) :
    [y].length ≤ 1000 ∧ ∀ a, H a = none → spEx C f (.ref a :: ([y] ++ [])) (upd H a (exo a C none)) (fun v H2 => v = .non ∧ ∃ (d : Addr) (fs : List (Str × V)), H2 a = some (exo a C (some d)) ∧ H2 d = some (exd d fs) ∧ H d = none ∧ Q (.ref C) (some d) (upd (del H2 a) d (.xd fs))) (fun _ _ _ => False) := by
  refine ⟨by show 1 ≤ 1000; decide, fun a na => ⟨a, y, rfl, upd_same, fun d nd hda => ⟨rfl, d, [(f, y)], upd_same, by rw [upd_ne hda, upd_same], by rwa [upd_ne hda] at nd, ?_⟩⟩⟩
  have nd' : H d = none := by rwa [upd_ne hda] at nd
  have e : upd (del (upd (upd (upd H a (exo a C none)) d (exd d [(f, y)])) a (exo a C (some d))) a) d (.xd [(f, y)]) = upd H d (.xd [(f, y)]) := by
    funext b
    by_cases hb : b = d
    · subst hb; rw [upd_same, upd_same]
    · rw [upd_ne hb, upd_ne hb]
      by_cases hba : b = a
      · subst hba; rw [del_same, na]
      · rw [del_ne hba, upd_ne hba, upd_ne hb, upd_ne hba]
  rw [e]
  exact h d nd'
/-! ### C(e, .., k = v, ..) that may raise, within a try: the wish knows the slots -/
def tMakeS (C : Addr) (n m : Nat) (sp : Sp) (gV : List V → List V → List V) (W : WX) (t tk : TA) : TE := fun σ H Q => t σ H fun vs H1 => tk σ H1 fun zs H2 => vs.length = n ∧ zs.length = m ∧
  ∀ x dx, H2 x = none → H2 dx = none → dx ≠ x → sp (gV (.ref x :: vs) zs) (upd (upd H2 dx (.own x)) x (.ins C dx [])) (fun v H3 => v = .non ∧ Q (.ref x) H3) (WE W σ)
section
variable {X : Cx} {k n : Nat} {f C : Addr} {fd : FuncData} {ps ks : List Str} {sp : Sp} {W : WX} {x : Str} {p pos : Pos} {e : Expr} {es : List Expr} {kws : List Keyword} {t tk : TA} {g : List Value → List Value → List Value} {gV : List V → List V → List V}
theorem pe_makeS (M : Mk X.K C f) (F : FnOk X.prog X.w X.K X.mg X.base (L2.CX X.prog X.w) k f fd ps sp) (hr : Room (k + 1) X.A) (hg : Gl X x) (hm : X.mg x = some (.ref C)) (hb : KBn X.K fd ps (n + 1) ks g gV) (hx : Takes X W)
    (ha : PA X (e :: es) t) (hkw : PK X kws tk) (hall : (backToKw pos (keywordEach kws X.env)).all (·.1.isSome) = true := by rfl) (hks : (backToKw pos (keywordEach kws X.env)).filterMap (·.1) = ks := by rfl)
    (hdb : (x == ("__debug__" : Str)) = false := by decide) (he : starEach (e :: es) X.env = (false, eval e X.env) :: starEach es X.env := by rfl)
    (hpl : ((backTo pos (starEach (e :: es) X.env)).any (·.1) || (backToKw pos (keywordEach kws X.env)).any (·.1.isNone)) = false := by rfl) : PE X (.Call (.Name x p) (e :: es) kws pos) (tMakeS C n ks.length sp gV W t tk) := by
  constructor
  intro pins s σ H Q I h
  apply wpAny_Call_Name_kw
  apply ld_glob I hg hm _ hdb
  apply PySem.W.callWith_KW (h₀ := X.base) I.ok.mod.kin M.kp hall _ hpl he
  refine thn (ha.run pos pins s σ H _ I h) fun us s1 hh => ?_
  obtain ⟨vs, H1, I1, r, q⟩ := hh
  refine thn (hkw.run pos pins s1 σ H1 _ I1 q) fun ws s2 hh => ?_
  obtain ⟨zs, H2, I2, rz, l1, l2, q2⟩ := hh
  refine ⟨I2.kIn, ?_⟩
  rw [hks]
  have hq := q2 (s2.heap.objs.size + 1) s2.heap.objs.size (I2.hok.fresh (Nat.le_succ _)) (I2.hok.fresh (Nat.le_refl _)) (Nat.ne_of_lt (Nat.lt_succ_self _))
  have J := Inv.made (C := C) I2
  have n1 : (Value.ref (s2.heap.objs.size + 1) :: us).length = n + 1 := by rw [List.length_cons, ← r.length, l1]
  have r1 : Vals (V.ref (s2.heap.objs.size + 1) :: vs) (Value.ref (s2.heap.objs.size + 1) :: us) := .cons rfl r
  have rr := hb.rel r1 rz
  have bnd := hb.to _ (Value.ref (s2.heap.objs.size + 1) :: us) ws J.kIn n1 (rz.length.symm.trans l2)
  have one := F.run _ X.stack _ _ ⟨Value.ref (s2.heap.objs.size + 1) :: us, ks.zip ws⟩ _ _ _ _ (hr.make C us (ks.zip ws)) (J.env0.make C us (ks.zip ws)) bnd rr hq
  refine wpAny_call (make_map (f := f) I2.kIn M.makes M.init (beq_iff_eq.mp M.fn) (codeAny_mono one fun r s' z => ?_))
  match r, z with
  | .error u, z => exact passAt hx σ pins _ _ u s' J z
  | .ok (.ret u), z =>
    obtain ⟨v, H', J2, rv, ev, q3⟩ := J.after z
    subst ev
    exact ⟨rv, .ref (s2.heap.objs.size + 1), H', J2, rfl, q3⟩
end
end HQ
/-! displays of data in one step: tuples of tuples of texts, numbers and names' values -/
namespace HK
open PySem PySem.Spec PyProof.Rows L2 HB
section
variable {K : PySem.W.Frag} {σ : L2.St} {H0 : Hp}
/-- the expression gives this data, and what stood stands -/
def MkE (K : PySem.W.Frag) (σ : L2.St) (H0 : Hp) (t : TE) (d : PyData) : Prop := ∀ (H : Hp) (Q : VK), Same H0 H → (∀ v H', Same H H' → Dp K H' v d → Q v H') → t σ H Q
def MkA (K : PySem.W.Frag) (σ : L2.St) (H0 : Hp) (t : TA) (ds : List PyData) : Prop := ∀ (H : Hp) (Q : List V → Hp → Prop), Same H0 H → (∀ vs H', Same H H' → DpAll K H' vs ds → Q vs H') → t σ H Q
theorem mk_int {i : Int} : MkE K σ H0 (tC (.int i)) (.int i) := fun H Q _ q => q _ H (Same.refl H) (.int i)
theorem mk_str {z : Str} : MkE K σ H0 (tC (.str z)) (.str z) := fun H Q _ q => q _ H (Same.refl H) (.str z)
theorem mk_non : MkE K σ H0 (tC .non) .none := fun H Q _ q => q _ H (Same.refl H) .non
theorem mk_bl {b : Bool} : MkE K σ H0 (tC (.bl b)) (.bool b) := fun H Q _ q => q _ H (Same.refl H) (.bl b)
theorem mk_var {i : Nat} {v : V} {d : PyData} (h : σ[i]? = some (some v)) (hd : Dp K H0 v d) : MkE K σ H0 (tVar i) d := fun H Q s q => ⟨v, h, q _ H (Same.refl H) (s.dp hd)⟩
theorem mk_nil : MkA K σ H0 tNil [] := fun H Q _ q => q [] H (Same.refl H) .nil
theorem mk_cons {t : TE} {ta : TA} {d : PyData} {ds : List PyData} (h : MkE K σ H0 t d) (ha : MkA K σ H0 ta ds) : MkA K σ H0 (tCons t ta) (d :: ds) := fun H Q s q =>
  h H _ s fun v H1 s1 hv => ha H1 _ (s.trans s1) fun vs H2 s2 hvs => q (v :: vs) H2 (s1.trans s2) (.cons (s2.dp hv) hvs)
theorem mk_tup {ta : TA} {ds : List PyData} (h : MkA K σ H0 ta ds) (hz : ds.length ≤ 1000 := by simp) : MkE K σ H0 (tTup ta) (.tuple ds) := fun H Q s q =>
  h H _ s fun vs H1 s1 hvs => ⟨by rw [HX.dpAll_len hvs]; exact Nat.le_of_lt (small1000 hz), fun p np => q (.ref p) _ (s1.trans (same_upd np)) (.tup (stt upd_same) ((same_upd np).dpAll hvs))⟩
theorem mk_of {t : TE} {d : PyData} (h : ∀ (H : Hp) (Q : VK), Same H0 H → (∀ v H', Same H H' → Dp K H' v d → Q v H') → t σ H Q) : MkE K σ H0 t d := h
/-! ### where a statement's value is a display -/
theorem seq_set {t : TE} {g : TG} {u : TS} {D : Ends} {σ : L2.St} {H : Hp} (h : t σ H fun v H1 => g v σ H1 (u D)) : tSeq (tAsg t g) u D σ H := h
theorem nm_ {i : Nat} {v : V} {σ : L2.St} {H : Hp} {nx : L2.St → Hp → Prop} {rt : VK} {bk ct : L2.St → Hp → Prop} (h : nx (σ.set i (some v)) H) : gName i v σ H (Ends.mk nx rt bk ct).nx := h
theorem nx_ {σ : L2.St} {H : Hp} {nx : L2.St → Hp → Prop} {rt : VK} {bk ct : L2.St → Hp → Prop} (h : nx σ H) : (Ends.mk nx rt bk ct).nx σ H := h
theorem nm1 {i : Nat} {v : V} {σ : L2.St} {H : Hp} {Q : L2.St → Hp → Prop} (h : Q (σ.set i (some v)) H) : gName i v σ H Q := h
/-- behind a name's store: the next statement sets a name too -/
theorem nm_set {i : Nat} {v : V} {σ : L2.St} {H : Hp} {t : TE} {g : TG} {u : TS} {D : Ends} {rt : VK} {bk ct : L2.St → Hp → Prop} (h : t (σ.set i (some v)) H fun y H1 => g y (σ.set i (some v)) H1 (u D)) : gName i v σ H (Ends.mk (tSeq (tAsg t g) u D) rt bk ct).nx := h
theorem one_set {t : TE} {g : TG} {D : Ends} {σ : L2.St} {H : Hp} (h : t σ H fun v H1 => g v σ H1 D.nx) : tAsg t g D σ H := h
theorem one_ret {t : TE} {D : Ends} {σ : L2.St} {H : Hp} (h : t σ H D.rt) : tRet t D σ H := h
theorem op_ {r : R2} {ta tb : TE} {σ : L2.St} {H : Hp} {Q : VK} (h : ta σ H fun x H1 => tb σ H1 fun y H2 => r x y H2 Q) : tOp r ta tb σ H Q := h
theorem cons_ {t : TE} {ta : TA} {σ : L2.St} {H : Hp} {Q : List V → Hp → Prop} (h : t σ H fun x H1 => ta σ H1 fun xs H2 => Q (x :: xs) H2) : tCons t ta σ H Q := h
theorem run_tup {H : Hp} {Q : VK} {ta : TA} {ds : List PyData} (h : MkA K σ H ta ds) (q : ∀ p H', H p = none → Same H H' → Dp K H' (.ref p) (.tuple ds) → Q (.ref p) H') (hz : ds.length ≤ 1000 := by simp) : tTup ta σ H Q :=
  h H _ (Same.refl H) fun vs H1 s1 hvs => ⟨by rw [HX.dpAll_len hvs]; exact Nat.le_of_lt (small1000 hz), fun p np => q p _ (s1.free np) (s1.trans (same_upd np)) (.tup (stt upd_same) ((same_upd np).dpAll hvs))⟩
theorem run_lst {H : Hp} {Q : VK} {ta : TA} {ds : List PyData} (h : MkA K σ H ta ds) (q : ∀ p H' vs, H p = none → Same H H' → H' p = some (.lst vs) → DpAll K H' vs ds → Q (.ref p) H') (hz : ds.length ≤ 1000 := by simp) : tLst ta σ H Q :=
  h H _ (Same.refl H) fun vs H1 s1 hvs => ⟨by rw [HX.dpAll_len hvs]; exact Nat.le_of_lt (small1000 hz), fun p np => q p _ vs (s1.free np) (s1.trans (same_upd np)) upd_same ((same_upd np).dpAll hvs)⟩
theorem dpAll_app {H : Hp} : ∀ {xs ys : List V} {ds es : List PyData}, DpAll K H xs ds → DpAll K H ys es → DpAll K H (xs ++ ys) (ds ++ es)
  | _, _, _, _, .nil, k => k
  | _, _, _, _, .cons h t, k => .cons h (dpAll_app t k)
/-- the comprehension has no test -/
theorem yes_ {σ : L2.St} {H : Hp} {A B : Hp → Prop} (h : A H) : tYes σ H (fun b H1 => if b = true then A H1 else B H1) := by
  show if true = true then A H else B H
  rw [if_pos rfl]
  exact h
/-! ### data of tuples alone -/
mutual
def tupD : PyData → Bool
  | .list _ => false
  | .dict _ => false
  | .tuple xs => tupAll xs
  | _ => true
def tupAll : List PyData → Bool
  | [] => true
  | x :: xs => tupD x && tupAll xs
end
mutual
theorem dp_keep {H H' : Hp} (k : ∀ (a : Addr) (xs : List V), SqT K H a xs → SqT K H' a xs) : ∀ {v : V} {x : PyData}, tupD x = true → Dp K H v x → Dp K H' v x
  | _, _, _, .non => .non
  | _, _, _, .bl b => .bl b
  | _, _, _, .int i => .int i
  | _, _, _, .str x => .str x
  | _, _, t, .lst h j => by cases t
  | _, _, t, .tup h j => .tup (k _ _ h) (dpAll_keep k t j)
theorem dpAll_keep {H H' : Hp} (k : ∀ (a : Addr) (xs : List V), SqT K H a xs → SqT K H' a xs) : ∀ {vs : List V} {xs : List PyData}, tupAll xs = true → DpAll K H vs xs → DpAll K H' vs xs
  | _, _, _, .nil => .nil
  | _, _, t, .cons h j => by
    simp only [tupAll, Bool.and_eq_true] at t
    exact .cons (dp_keep k t.1 h) (dpAll_keep k t.2 j)
end
theorem sqt_setl {H : Hp} {t l : Addr} {xs ys zs : List V} (e : H l = some (.lst ys)) (h : SqT K H t xs) : SqT K (upd H l (.lst zs)) t xs := by
  rcases h with (h | ⟨o, h⟩) | h
  · exact .inl (.inl (by rw [upd_ne (fun q => by subst q; rw [e] at h; cases h)]; exact h))
  · exact .inl (.inr ⟨o, by rw [upd_ne (fun q => by subst q; rw [e] at h; cases h)]; exact h⟩)
  · exact .inr h
theorem sqt_setk {H : Hp} {t l : Addr} {xs : List V} {kvs : List (Key × V)} {o : HO} (e : H l = some (.dK kvs)) (h : SqT K H t xs) : SqT K (upd H l o) t xs := by
  rcases h with (h | ⟨o, h⟩) | h
  · exact .inl (.inl (by rw [upd_ne (fun q => by subst q; rw [e] at h; cases h)]; exact h))
  · exact .inl (.inr ⟨o, by rw [upd_ne (fun q => by subst q; rw [e] at h; cases h)]; exact h⟩)
  · exact .inr h
theorem tupAll_app : ∀ {xs ys : List PyData}, tupAll xs = true → tupAll ys = true → tupAll (xs ++ ys) = true
  | [], _, _, h => h
  | x :: xs, ys, h, k => by
    simp only [List.cons_append, tupAll, Bool.and_eq_true] at h ⊢
    exact ⟨h.1, tupAll_app h.2 k⟩
/-- t + u, tuples of data -/
theorem cat_dp {H : Hp} {Q : VK} {a b : Addr} {ds es : List PyData} (h1 : Dp K H (.ref a) (.tuple ds)) (h2 : Dp K H (.ref b) (.tuple es)) (l : ds.length + es.length ≤ sizeLine) (q : ∀ t H', Same H H' → Dp K H' (.ref t) (.tuple (ds ++ es)) → Q (.ref t) H') : HT2.rCatA K (.ref a) (.ref b) H Q := by
  cases h1 with
  | tup h1 k1 =>
    cases h2 with
    | tup h2 k2 =>
      refine ⟨a, b, _, _, rfl, rfl, h1, h2, by rw [HX.dpAll_len k1, HX.dpAll_len k2]; exact l, fun e => ?_, fun _ e => ?_, fun _ _ p np => ?_⟩
      · subst e
        cases k1
        exact q b H (Same.refl H) (.tup h2 k2)
      · subst e
        cases k2
        rw [List.append_nil] at q
        exact q a H (Same.refl H) (.tup h1 k1)
      · exact q p _ (same_upd np) (.tup (stt upd_same) ((same_upd np).dpAll (dpAll_app k1 k2)))
theorem dp_at' {H : Hp} : ∀ {xs : List V} {ds : List PyData}, DpAll K H xs ds → ∀ {i : Nat} {d : PyData}, ds[i]? = some d → ∃ v, xs[i]? = some v ∧ Dp K H v d
  | _, _, .cons h _, 0, _, e => ⟨_, rfl, by cases e; exact h⟩
  | _, _, .cons _ t, i + 1, _, e => dp_at' t (by simpa using e)
  | _, _, .nil, i, _, e => by simp at e
theorem seq_ {t u : TS} {D : Ends} {σ : L2.St} {H : Hp} (h : t { D with nx := u D } σ H) : tSeq t u D σ H := h
/-- for .. in [a display] -/
theorem for_lst {H : Hp} {ta : TA} {ds : List PyData} {g : TG} {tb : TS} {D : Ends} (h : MkA K σ H ta ds) (q : ∀ (a : Addr) (H1 : Hp) (vs : List V), H a = none → Same H H1 → H1 a = some (.lst vs) → DpAll K H1 vs ds →
    ∃ Pv : Nat → L2.St → Hp → Prop, Pv 0 σ H1 ∧ (∀ i σ' H', Pv i σ' H' → SqL K H' a vs) ∧ (∀ i x d σ' H', vs[i]? = some x → ds[i]? = some d → Dp K H1 x d → Pv i σ' H' → g x σ' H' fun σ2 H2 => tb { D with nx := Pv (i + 1), ct := Pv (i + 1), bk := D.nx } σ2 H2) ∧ ∀ σ' H', Pv vs.length σ' H' → D.nx σ' H')
    (hz : ds.length ≤ 1000 := by simp) : tFor (iList K (tLst ta)) g tb D σ H := by
  unfold tFor iList
  refine run_lst h (fun p H1 vs n s l dv => ?_) hz
  obtain ⟨Pv, h0, hl, hs, hd⟩ := q p H1 vs n s l dv
  refine ⟨p, rfl, ⟨_, sl l⟩, for_list (xs := vs) Pv h0 (fun i σ' H' _ hp => hl i σ' H' hp) (fun i x σ' H' hx hp => ?_) hd⟩
  have hi : i < ds.length := by
    have := (List.getElem?_eq_some_iff.mp hx).1
    rw [← HX.dpAll_len dv]
    exact this
  obtain ⟨x', e1, e2⟩ := dp_at' dv (List.getElem?_eq_getElem hi)
  rw [hx] at e1
  cases e1
  exact hs i x _ σ' H' hx (List.getElem?_eq_getElem hi) e2 hp
/-- an item of a list of data -/
theorem dp_at {H : Hp} : ∀ {xs : List V} {ds : List PyData}, DpAll K H xs ds → ∀ {i : Nat} {d : PyData}, ds[i]? = some d → ∃ v, xs[i]? = some v ∧ Dp K H v d
  | _, _, .cons h _, 0, _, e => ⟨_, rfl, by cases e; exact h⟩
  | _, _, .cons _ t, i + 1, _, e => dp_at t (by simpa using e)
  | _, _, .nil, i, _, e => by simp at e
end
/-! ### repr of any data -/
def rReprA (K : PySem.W.Frag) : List V → Hp → VK → Prop := fun vs H Q => ∃ (x : V) (d : PyData), vs = [x] ∧ Dp K H x d ∧ d.showable = true ∧ d.hasDict = false ∧ d.depth ≤ 60 ∧ d.shown.length ≤ sizeLine ∧ Q (.str d.shown) H
theorem call_reprA {X : Cx} (sh : HG.Shut X.A) (hu : X.A.units + 64 < cLine) : CallR X (.builtin "repr") (rReprA X.K) := by
  intro pins s σ H vs us Q I r h
  obtain ⟨x, d, rfl, hd, sw, nd, dep, len, q⟩ := h
  have hd0 := hd
  cases hd with
  | non =>
    obtain ⟨u, rfl, rx⟩ := vals1 r
    obtain rfl : u = Value.none := rx
    exact PySem.P.repr_of_none ⟨.str "None", H, I.tok _, ⟨_, rfl⟩, by rw [PyData.shown_none] at q; exact q⟩
  | bl b =>
    obtain ⟨u, rfl, rx⟩ := vals1 r
    obtain rfl : u = Value.bool b := rx
    exact PySem.P.repr_of_bool ⟨.str _, H, I.tok _, ⟨_, rfl⟩, by rw [PyData.shown_bool] at q; exact q⟩
  | int i =>
    obtain ⟨u, rfl, t, rfl⟩ := vals1 r
    have hz : i.natAbs.log2 < 1920 := of_decide_eq_true sw
    exact PySem.P.repr_of_int hz ⟨.str _, H, I.tok _, ⟨_, rfl⟩, by rw [PyData.shown_int] at q; exact q⟩
  | str z =>
    obtain ⟨u, rfl, t, rfl⟩ := vals1 r
    exact PySem.P.repr_of_str ⟨.str _, H, I.tok _, ⟨_, rfl⟩, by rw [PyData.shown_str] at q; exact q⟩ (by rw [PyData.shown_str] at len; exact len)
  | lst h1 h2 => exact HG.call_reprD sh hu pins s σ H _ us Q I r ⟨_, _, rfl, hd0, rfl, sw, nd, dep, len, q⟩
  | tup h1 h2 => exact HG.call_reprD sh hu pins s σ H _ us Q I r ⟨_, _, rfl, hd0, rfl, sw, nd, dep, len, q⟩
end HK
/-! dicts of unlike sizes compared; list(x) of a dict or a list; all but some objects stand -/
namespace HN
open PySem PySem.Spec PySem.Calls PyProof.Rows L2 HB
section
variable {X : Cx}
/-- d == e, d != e: alike by every key, or of unlike sizes -/
def rDB (r : Bool) : R2 := fun x y H Q => ∃ a b ks ls, x = .ref a ∧ y = .ref b ∧ H a = some (.dK ks) ∧ H b = some (.dK ls) ∧
  ((ks.length = ls.length ∧ (∀ p ∈ ks, valV ls p.1 = some p.2 ∧ flatB p.2 = true) ∧ Q (.bl r) H) ∨ (ks.length ≠ ls.length ∧ Q (.bl (!r)) H))
theorem op_eq_dictB (hu : X.A.units < cLine) : OpR X (compareOp .Eq) (rDB true) := by
  intro pins s σ H x y v u Q I rx ry h
  obtain ⟨a, b, ks, ls, rfl, rfl, ea, eb, h⟩ := h
  rcases h with ⟨hl, hp, q⟩ | ⟨hl, q⟩
  · exact op_eq_dictA hu pins s σ H _ _ v u Q I rx ry ⟨a, b, ks, ls, rfl, rfl, ea, eb, hl, hp, q⟩
  · obtain rfl : v = Value.ref a := rx
    obtain rfl : u = Value.ref b := ry
    obtain ⟨_, ya, va, ra, da⟩ := (show ObjOk X.prog X.w H s.heap a (.dK ks) from I.hok a _ ea)
    obtain ⟨_, yb, vb, rb, db⟩ := (show ObjOk X.prog X.w H s.heap b (.dK ls) from I.hok b _ eb)
    have hn : va.length ≠ vb.length := by rw [← ra.length, ← rb.length]; exact hl
    exact PySem.W.keq_eq (knd := mixKind X.prog X.w) (r := true) ya yb da db hu (fun e => absurd e hn) (fin_bl I q (by simp [hn]))
theorem op_ne_dictB (hu : X.A.units < cLine) : OpR X (compareOp .NotEq) (rDB false) := by
  intro pins s σ H x y v u Q I rx ry h
  obtain ⟨a, b, ks, ls, rfl, rfl, ea, eb, h⟩ := h
  rcases h with ⟨hl, hp, q⟩ | ⟨hl, q⟩
  · exact op_ne_dictA hu pins s σ H _ _ v u Q I rx ry ⟨a, b, ks, ls, rfl, rfl, ea, eb, hl, hp, q⟩
  · obtain rfl : v = Value.ref a := rx
    obtain rfl : u = Value.ref b := ry
    obtain ⟨_, ya, va, ra, da⟩ := (show ObjOk X.prog X.w H s.heap a (.dK ks) from I.hok a _ ea)
    obtain ⟨_, yb, vb, rb, db⟩ := (show ObjOk X.prog X.w H s.heap b (.dK ls) from I.hok b _ eb)
    have hn : va.length ≠ vb.length := by rw [← ra.length, ← rb.length]; exact hl
    exact PySem.W.keq_ne (knd := mixKind X.prog X.w) (r := true) ya yb da db hu (fun e => absurd e hn) (fin_bl I q (by simp [hn]))
/-- list(x) of a list, a tuple, a dict -/
def rListAny (K : PySem.W.Frag) : List V → Hp → VK → Prop := fun xs H Q => (∃ p ys, xs = [.ref p] ∧ (SqL K H p ys ∨ SqT K H p ys) ∧ ∀ l, H l = none → Q (.ref l) (upd H l (.lst ys))) ∨
  ∃ (a : Addr) (kvs : List (Key × V)), xs = [.ref a] ∧ Rd H a (.dK kvs) ∧ ∀ p, H p = none → Q (.ref p) (upd H p (.lst (kvs.map fun kv => kV kv.1)))
theorem call_listAny (hc : X.calm = true) : CallR X (.type "list") (rListAny X.K) := by
  intro pins s σ H xs us Q I r h
  rcases h with h | h
  · exact call_list_of pins s σ H xs us Q I r h
  · exact call_listD hc pins s σ H xs us Q I r h
end
/-! ### all but these stand -/
def But (S : List Addr) (H H' : Hp) : Prop := ∀ b o, H b = some o → b ∉ S → H' b = some o
section
variable {S S' : List Addr} {K : PySem.W.Frag} {H H' H'' : Hp}
theorem But.refl (H : Hp) : But S H H := fun _ _ h _ => h
theorem But.trans (a : But S H H') (b : But S H' H'') : But S H H'' := fun x o h h1 => b x o (a x o h h1) h1
theorem But.of (s : Same H H') : But S H H' := fun b o h _ => s b o h
theorem But.mono (a : But S H H') (h : ∀ x ∈ S, x ∈ S') : But S' H H' := fun x o e n => a x o e fun m => n (h x m)
theorem But.set (a : But S H H') {p : Addr} {o : HO} (h : p ∈ S) : But S H (upd H' p o) := fun x y e n => by
  rw [upd_ne (fun q => by subst q; exact n h)]
  exact a x y e n
theorem But.own (a : But S H H') {p : Addr} {o : HO} (n : H p = none) : But S H (upd H' p o) := fun x y e m => by
  rw [upd_ne (ne_of_none e n)]
  exact a x y e m
/-- tuples stand, where the others are none -/
theorem But.sqt (u : But S H H') (hS : ∀ x ∈ S, ∃ o, H x = some o ∧ (∀ xs, o ≠ .tup xs) ∧ ∀ ob ys, o ≠ .frz ob ys) {a : Addr} {xs : List V} (h : SqT K H a xs) : SqT K H' a xs := by
  rcases h with (h | ⟨o, h⟩) | h
  · refine .inl (.inl (u _ _ h fun m => ?_))
    obtain ⟨o, e, n1, _⟩ := hS _ m
    rw [h] at e
    exact n1 _ (Option.some.inj e).symm
  · refine .inl (.inr ⟨o, u _ _ h fun m => ?_⟩)
    obtain ⟨o2, e, _, n2⟩ := hS _ m
    rw [h] at e
    exact n2 _ _ (Option.some.inj e).symm
  · exact .inr h
end
end HN
/-! str(x): of a number or a text, and of an instance whose class has its own __str__ -/
namespace HJ
open PySem
section
open Sem (wp)
open Builtin Builtin.Str
variable {prog : Program} {w : World} {A : Around} {E : Value → Shared → Prop} {s : Shared}
theorem callType_in {T newId initId : String} {Bn Bi : Builtin} {args : List Value} {S : Spec} {Q Q₁ : Value → Shared → Prop} (ft : TypeCalled T newId initId)
    (hct : checkTypeCall T ⟨args, []⟩ = pure ()) (hcn : checkBuiltinCall newId ⟨.type T :: args, []⟩ = pure ())
    (entryN : entryFor table newId = some Bn) (entryI : entryFor table initId = some Bi) (g : MeetsIn prog w (Bn ⟨.type T :: args, []⟩) S)
    (h : S A.in1 (wants Q₁ E) s)
    (hnext : ∀ obj s₁, Q₁ obj s₁ → s₁.TypeIs obj T ∧ argsOk initId ⟨obj :: args, []⟩ ∧ ∃ Si, Meets (Bi ⟨obj :: args, []⟩) Si ∧ Si A.in1 (wants (fun r s₂ => r = .none ∧ Q obj s₂) E) s₁) :
    wpAny (model prog w) A (call (.type T) args) Q E s := by
  obtain ⟨c, tl, hmro⟩ := ft.mro
  have hmade := ft.made
  have hsub := ft.sub
  refine wpAny_call (codeAny_of_tree ?_)
  show wpAny _ _ (callAny (.type T) _) _ _ _
  refine wpAny_pure ⟨Code.quiet_builtin _ (by decide +kernel), codeAny_builtin F.entry_type_call ?_⟩
  rw [Around.under_plain (weight_type_call_type T args []) (units_type_call_type T args [])]
  have h1 := ft.notType
  have h2 := ft.canCreate
  repeat (any_goals (first | assumption | wp_step))
  refine codeAny_mono (codeAny_call_builtin ft.plain entryN (wpAny_of_eq hcn (g A.in1 _ s h))) fun r s₁ hr => ?_
  cases r with
  | error e => exact hr
  | ok fl =>
    cases fl with
    | ret obj =>
      obtain ⟨hT, hok, Si, gi, hsi⟩ := hnext _ _ hr
      have hli := ft.init.lookup
      have hbi := ft.init.bind obj
      repeat (any_goals (first | assumption | wp_step))
      refine codeAny_mono (codeAny_call_builtin ft.init.plain entryI (ft.init.check _ _ _ _ _ _ _ _ hT hok (gi prog w A.in1 _ s₁ hsi))) fun r₂ s₂ hr₂ => ?_
      cases r₂ with
      | error e => exact hr₂
      | ok fl₂ =>
        cases fl₂ with
        | ret r =>
          obtain ⟨rfl, hq⟩ := hr₂
          repeat (any_goals (first | assumption | wp_step))
        | _ => exact hr₂.elim
    | _ => exact hr.elim
theorem str_new_in {v : Value} {S : PySem.Spec} (hs : ∀ (A : Around) (R : Result → Shared → Prop) (s : Shared), S A R s →
      wpAny (model prog w) A.in1 (strOf v) (fun r s' => R (.ok (.ret r)) s') (fun e s' => R (.error e) s') s) : MeetsIn prog w («str.__new__» ⟨[.type "str", v], []⟩) S := by
  refine MeetsIn.of_wp fun A R s h => ?_
  rw [str_new_tree v]
  refine wpAny_bind (wpAny_pure ?_)
  refine wpAny_bind (wpAny_of_eq isSubtype_str_str ?_)
  exact wpAny_bind (wpAny_mono (hs A R s h) (fun r s' h' => wpAny_pure ⟨_, rfl, h'⟩) fun _ _ e => e)
theorem str_own {a : Addr} {Q : Value → Shared → Prop} (hu : A.units + 64 < cLine)
    (h : wpAny (model prog w) A.in1.in1 (callSpecial? (.ref a) "__str__") (fun r s' => ∃ z t, r = some (.str z t) ∧ Q (.str z t) s') E s) :
    wpAny (model prog w) A (call (.type "str") [.ref a]) Q E s :=
  callType_in (S := fun A' R s' => A' = A.in1 ∧ s' = s ∧ R = wants (fun obj s₁ => s₁.TypeIs obj "str" ∧ Q obj s₁) E) F.called_str (F.typeCall_str_1 _) (F.newCall_str_1 _) F.entry_str_new F.entry_object_init
    (str_new_in fun A' R s' hq => by
      obtain ⟨rfl, rfl, rfl⟩ := hq
      unfold strOf
      rw [show isExactStr (.ref a) = false from rfl]
      simp only [Bool.false_eq_true, if_false, pure_bind]
      refine wpAny_bind (wpAny_cRoomFor (by show A.units + 1 + 1 < cLine; omega) ?_)
      refine wpAny_bind (m := callSpecial? (.ref a) (Str.ofString "__str__")) (wpAny_mono h (fun r s2 hr => ?_) fun _ _ e => e)
      obtain ⟨z, t, rfl, hq⟩ := hr
      repeat (any_goals (first | assumption | wp_step))
      exact ⟨typeIs_str _ _ _, hq⟩)
    ⟨rfl, rfl, rfl⟩ (fun obj _ hq => ⟨hq.1, F.args_object_init_2 obj _, _, object_init_meets F.called_str.init.lookup F.called_str.made (by decide), hq.1, rfl, hq.2⟩)
end
section
open PySem.Spec PyProof.Rows L2
variable {X : Cx} {CX : CXT} {k : Nat} {f C : Addr} {fd : FuncData} {ps : List Str} {sp : Sp} {E : XK}
/-- str(x) of a number or a text -/
def rStrIS : List V → Hp → VK → Prop := fun xs H Q => (∃ i : Int, xs = [.int i] ∧ i.natAbs.log2 < 1920 ∧ Q (.str (toString i)) H) ∨ ∃ a : Str, xs = [.str a] ∧ Q (.str a) H
theorem call_strIS : CallR X (.type "str") rStrIS := by
  intro pins s σ H xs us Q I r h
  rcases h with h | h
  · exact call_str_int pins s σ H xs us Q I r h
  · exact SkE.call_str_str pins s σ H xs us Q I r h
/-- str(x) of an instance whose class says how -/
def rStrO (C : Addr) (sp : Sp) (E : XK) : List V → Hp → VK → Prop := fun xs H Q => ∃ (a dx : Addr) (fs : List (Str × V)), xs = [.ref a] ∧ H a = some (.ins C dx fs) ∧ sp [.ref a] H (fun v H' => ∃ z : Str, v = .str z ∧ Q v H') E
theorem call_strO (hm : Meth X.K C "__str__" f) (F : FnOk X.prog X.w X.K X.mg X.base CX k f fd ps sp) (hr : Room (k + 2) X.A) (hb : Binds X.K fd ps []) (hx : Passes CX X E) : CallR X (.type "str") (rStrO C sp E) := by
  intro pins s σ H xs us Q I r h
  obtain ⟨a, dx, fs, rfl, e, q⟩ := h
  obtain ⟨u, rfl, ru⟩ := vals1 r
  obtain rfl : u = Value.ref a := ru
  refine str_own hr.units ?_
  obtain ⟨mA, O, _⟩ := ins_get I.hok e
  obtain ⟨od, J, _⟩ := O.look
  refine PySem.W.special_fn I.kIn J hm.at_ (beq_iff_eq.mp hm.fn) ?_
  have hl : ([Value.ref a] ++ []).length = ps.length := by
    have := F.len _ _ _ _ q
    exact this
  refine wpAny_call (codeAny_mono (F.run X.A.in1.in1 X.stack s H ⟨[.ref a], []⟩ [.ref a] [.ref a] _ E hr.in1.in1 I.env0.in1.in1 (hb s [.ref a] I.kIn hl) (.cons rfl .nil) q) fun r s' hq => ?_)
  cases r with
  | error e => exact hx pins σ H s e s' I hq
  | ok fl =>
    cases fl with
    | ret u =>
      obtain ⟨v, H', I3, rv, z, ev, q3⟩ := I.after hq
      subst ev
      obtain ⟨t, rfl⟩ := rv
      exact ⟨z, t, rfl, .str z, H', I3, ⟨t, rfl⟩, q3⟩
    | next => exact False.elim hq
    | brk => exact False.elim hq
    | cont => exact False.elim hq
end
end HJ
/-! zip of a text and a tuple -/
namespace HE
open PySem PySem.Spec PySem.Calls PyProof.Rows L2 RZ
open Sem (wp)
/-- the signs of x and a tuple at b, as they stand at each turn -/
def ItzST (K : PySem.W.Frag) (x : Str) (b : Addr) : It :=
  ⟨fun i H => ∃ (ys : List V) (y : V), SqT K H b ys ∧ i < x.cps.size ∧ ys[i]? = some y,
    fun i H v H' => ∃ (T : Addr) (c : Nat) (y : V), v = .ref T ∧ H T = none ∧ H' = upd H T (.tup [.str ⟨#[c]⟩, y]) ∧ x.cps[i]? = some c ∧ ∀ ys, SqT K H b ys → ys[i]? = some y,
    fun i H => ∃ ys : List V, SqT K H b ys ∧ i ≤ x.cps.size ∧ i ≤ ys.length ∧ (x.cps.size ≤ i ∨ ys.length ≤ i)⟩
def ZStS (z TI TO i1 i2 : Addr) (x : Str) (t : Tok) (b : Addr) (i : Nat) (h : Heap) : Prop := IsZip h z TI TO .none ∧ IsTupOf2 h TI (.ref i1) (.ref i2) ∧ (∃ x y, IsTupOf2 h TO x y) ∧ h.IsStrIter i1 (strIterType x) x t i ∧ h.IsTupleIter i2 b i
theorem strIter_at {h h' : Heap} {it : Addr} {ty : String} {x : Str} {t : Tok} {i : Nat} (s : h.IsStrIter it ty x t i) (k : ∀ o, h.get? it = some o → h'.get? it = some o) : h'.IsStrIter it ty x t i := let ⟨o, ho, r⟩ := s; ⟨o, k o ho, r⟩
theorem ZStS.live {z TI TO i1 i2 b : Addr} {x : Str} {t : Tok} {i : Nat} {h : Heap} (st : ZStS z TI TO i1 i2 x t b i h) {c : Addr} (hc : c ∈ [z, TI, TO, i1, i2]) : ∃ o, h.get? c = some o ∧ ∀ v, o.data ≠ .cell v := by
  obtain ⟨h1, h2, ⟨x, y, h3⟩, ⟨p, e4, _, d4⟩, ⟨q, e5, _, d5⟩⟩ := st
  rcases mem5 hc with e | e | e | e | e <;> subst e
  · exact ⟨_, h1, fun v q => nomatch q⟩
  · exact ⟨_, h2, fun v q => nomatch q⟩
  · exact ⟨_, h3, fun v q => nomatch q⟩
  · exact ⟨p, e4, fun v q => by rw [d4] at q; cases q⟩
  · exact ⟨q, e5, fun v z => by rw [d5] at z; cases z⟩
theorem sep_ofS {n b : Addr} (hb : b < n) : ZipSep2 (n + 4) (n + 2) (n + 3) n (n + 1) [n] [n + 1, b] := by
  have e : ∀ k j : Nat, k ≠ j → n + k ≠ n + j := fun k j h z => h (Nat.add_left_cancel z)
  have ne : ∀ {c : Addr} (k : Nat), c < n → n + k ≠ c := fun k h z => Nat.lt_irrefl n (Nat.lt_of_le_of_lt (Nat.le_add_right n k) (z ▸ h))
  constructor
  · exact e 2 4 (by decide)
  · exact e 3 4 (by decide)
  · exact e 2 3 (by decide)
  · exact e 2 0 (by decide)
  · simp
  · simp only [List.mem_cons, List.not_mem_nil, or_false, not_or]; exact e 4 0 (by decide)
  · simp only [List.mem_cons, List.not_mem_nil, or_false, not_or]; exact e 3 0 (by decide)
  · exact e 2 1 (by decide)
  · simp
  · simp only [List.mem_cons, List.not_mem_nil, or_false, not_or]; exact ⟨e 4 1 (by decide), ne 4 hb⟩
  · simp only [List.mem_cons, List.not_mem_nil, or_false, not_or]; exact ⟨e 3 1 (by decide), ne 3 hb⟩
  · simp only [List.mem_cons, List.not_mem_nil, or_false, not_or]; exact ⟨e 0 1 (by decide), ne 0 hb⟩
  · simp only [List.mem_cons, List.not_mem_nil, or_false, not_or]; exact e 1 0 (by decide)
theorem turn_zipST {P : Program} {w : World} {K : PySem.W.Frag} {elts : List Expr} {kk : Nat} {tpos : Pos} {x : Str} {t : Tok} {b z TI TO i1 i2 : Addr} (D : ZipSep2 z TI TO i1 i2 [i1] [i2, b]) (hbi : b ≠ i2) (hz1 : i1 ≠ z) (hz2 : i2 ≠ z) :
    Turn P w K (.Tuple elts kk tpos) (ItzST K x b) [z, TI, TO, i1, i2] z (ZStS z TI TO i1 i2 x t b) where
  mem := by simp
  obj := fun i h st c hc => st.live hc
  keep := fun i h h' st k => by
    obtain ⟨h1, h2, ⟨x, y, h3⟩, h4, h5⟩ := st
    exact ⟨k z (by simp) _ h1, k TI (by simp) _ h2, ⟨x, y, k TO (by simp) _ h3⟩, strIter_at h4 fun o q => k i1 (by simp) o q, h5.at fun o q => k i2 (by simp) o q⟩
  item := by
    intro X hP hw hK hc i pins s σ H E I hf st hg
    subst hP hw hK
    obtain ⟨g1, g2, ⟨x0, y0, g3⟩, g4, g5⟩ := id st
    obtain ⟨ys, y, hqy, hx, hy⟩ := hg
    obtain ⟨its2, rv2, p2, _⟩ := I.tuple hqy
    obtain ⟨u2, hu2, ru2⟩ := rv2.get hy
    have ht : s.heap.IsTuple b its2.toArray := p2
    have lt2 : i < its2.toArray.size := by have := (List.getElem?_eq_some_iff.mp hu2).1; simpa using this
    have zl : z < s.heap.objs.size := Heap.lt_size g1
    refine wpAny_pyNext_zipD2_item D (PySem.Draws.text (A := X.A.in1) (I.ok.hd hc) i1 x t) (PySem.Draws.tuple (A := X.A.in1) (I.ok.hd hc) i2 b hbi its2.toArray) g1 g2 g3 g4 ⟨g5, ht⟩ hx lt2
      fun v1 v2 h' tk e1 e2 z' t' s1 s2 hT hsz hk => ?_
    obtain ⟨c, uc, hcc, rfl⟩ := e1
    have ev2 : v2 = u2 := by
      have h1 : its2.toArray[i]? = some u2 := by simpa using hu2
      rw [e2] at h1
      exact Option.some.inj h1
    subst ev2
    refine ⟨_, rfl, wpAny_letOwnedTupleGo_zip (s := { s with heap := h', toks := tk }) z' fun h2 z2 sb => ?_⟩
    have nz : s.heap.objs.size ≠ z := Nat.ne_of_gt zl
    have hT2 : h2.get? s.heap.objs.size = some { cls := .type "tuple", data := .seq #[.str ⟨#[c]⟩ uc, v2] } := (sb.2 _ nz).trans hT
    have old : ∀ c o, c ∉ [z, TI, TO, i1, i2] → s.heap.get? c = some o → h2.get? c = some o := fun c o hm q => by
      simp only [List.mem_cons, List.not_mem_nil, or_false, not_or] at hm
      exact (sb.2 c hm.1).trans (hk c o hm.1 hm.2.2.1 hm.2.2.2.1 hm.2.2.2.2 q)
    have new : ObjOk X.prog X.w (upd H s.heap.objs.size (.tup [.str ⟨#[c]⟩, y])) h2 s.heap.objs.size (.tup [.str ⟨#[c]⟩, y]) :=
      ⟨by show 2 ≤ sizeLine; decide, [.str ⟨#[c]⟩ uc, v2], .cons ⟨uc, rfl⟩ (.cons ru2 .nil), ⟨_, hT2, rfl, _, rfl⟩⟩
    have I1 := I.turnedNew (t' := tk) (ch := [z, TI, TO, i1, i2]) (h' := h2) old hf (Nat.le_refl _) new
    refine ⟨.ref s.heap.objs.size, _, I1, rfl, ⟨_, c, y, rfl, I.hok.fresh (Nat.le_refl _), rfl, hcc, fun l hl => by rw [I.tuple_inj hl hqy]; exact hy⟩,
      ⟨z2, (sb.2 _ D.TIz).trans (hk _ _ D.TIz D.TITO D.TIi1 D.TIi2 g2), ⟨_, v2, (sb.2 _ D.TOz).trans t'⟩, strIter_at s1 fun o q => (sb.2 _ hz1).trans q, s2.1.at fun o q => (sb.2 _ hz2).trans q⟩, fun c hm => ?_⟩
    obtain ⟨o, ho, _⟩ := st.live hm
    rw [upd_ne (Nat.ne_of_lt (Heap.lt_size ho))]
    exact (hf c hm).1
  done := by
    intro X hP hw hK hc i pins s σ H E I hf st hg
    subst hP hw hK
    obtain ⟨g1, g2, ⟨x0, y0, g3⟩, g4, g5⟩ := st
    obtain ⟨ys, hqy, hi1, hi2, hend⟩ := hg
    obtain ⟨its2, rv2, p2, _⟩ := I.tuple hqy
    have ht : s.heap.IsTuple b its2.toArray := p2
    have l2 := rv2.length
    have fin : ∀ (h' : Heap) (tk : Nat), (∀ c o, c ≠ z → c ≠ TO → c ≠ i1 → c ≠ i2 → s.heap.get? c = some o → h'.get? c = some o) → (none : Option Value) = none ∧ Inv X pins σ H { s with heap := h', toks := tk } := fun h' tk hk =>
      ⟨rfl, I.turnedL (t' := tk) (ch := [z, TI, TO, i1, i2]) (fun c o hb q => by
        simp only [List.mem_cons, List.not_mem_nil, or_false, not_or] at hb
        exact hk c o hb.1 hb.2.2.1 hb.2.2.2.1 hb.2.2.2.2 q) hf⟩
    have hh := I.ok.hd hc
    refine wpAny_pyNext_zipD2_end D (PySem.Draws.text (A := X.A.in1) hh i1 x t) (PySem.Draws.tuple (A := X.A.in1) hh i2 b hbi its2.toArray) g1 g2 g3 g4 ⟨g5, ht⟩ hi1 (by simp only [List.size_toArray]; omega) ?_ fin
    rcases hend with h | h
    · exact .inl (by omega)
    · exact .inr (by simp only [List.size_toArray]; omega)
  self := fun A i s Q E st h => wpAny_pyIter_zip st.1 h
def iZipST (K : PySem.W.Frag) (ta : TA) : TI := fun σ H R => ta σ H fun vs H1 => ∃ (x : Str) (b : Addr) (ys : List V), vs = [.str x, .ref b] ∧ SqT K H1 b ys ∧ R (ItzST K x b) H1
theorem pi_zipST {X : Cx} {e e2 : Expr} {ta : TA} {p pos tpos : Pos} {elts : List Expr} {kk : Nat} (hg : Gl X "zip") (hm : X.mg "zip" = none) (ha : PA X [e, e2] ta)
    (hs : starEach [e, e2] X.env = (false, eval e X.env) :: starEach [e2] X.env := by rfl) (hpl : (backTo pos (starEach [e2] X.env)).any (·.1) = false := by rfl) :
    PI X (.Tuple elts kk tpos) (.Call (.Name "zip" p) [e, e2] [] pos) (iZipST X.K ta) := by
  refine ⟨fun pins s σ H R I h => ?_⟩
  refine Call_ (ld_blt I hg hm PyProof.Rows.boot_zip (PyProof.Rows.callWith_type1 (thn (ha.run pos pins s σ H _ I h) fun us s1 ⟨vs, H1, I1, r1, x, b, ys, ex, hqy, q⟩ => ?_) hs hpl))
  subst ex
  obtain ⟨u1, u2, rfl, ra, rb⟩ := vals2 r1
  obtain ⟨t, rfl⟩ := ra
  cases rb
  obtain ⟨its2, rv2, p2, _⟩ := I1.tuple hqy
  have ht : s1.heap.IsTuple b its2.toArray := p2
  have bl : b < s1.heap.objs.size := by obtain ⟨_, e, _⟩ := ht; exact Heap.lt_size e
  refine zip_begins2 (begins_text x t) (begins_tuple b its2.toArray) trivial ht fun h' hz hTI hTO k1 k2 hsz hk => wpAny_pyIter_zip hz ?_
  have I2 : Inv X pins σ H1 { s1 with heap := h' } := I1.kept (t' := s1.toks) hk
  have n1 : ∀ k : Nat, s1.heap.objs.size + (k + 1) ≠ s1.heap.objs.size := fun k z => absurd (Nat.add_left_cancel (show s1.heap.objs.size + (k + 1) = s1.heap.objs.size + 0 from z)) (Nat.succ_ne_zero k)
  have n2 : s1.heap.objs.size + 1 ≠ s1.heap.objs.size + 4 := fun z => absurd (Nat.add_left_cancel z) (by decide)
  refine ⟨s1.heap.objs.size + 4, _, _, _, H1, rfl, I2, turn_zipST (x := x) (t := t) (sep_ofS bl) (Nat.ne_of_lt (Nat.lt_succ_of_lt bl)) (Ne.symm (n1 3)) n2, ⟨hz, hTI, ⟨_, _, hTO⟩, ⟨_, k1, rfl, rfl⟩, ⟨_, k2, rfl, rfl⟩⟩, fun c hm => ?_, q⟩
  have hle : s1.heap.objs.size ≤ c := by
    rcases mem5 hm with e | e | e | e | e <;> rw [e]
    · exact Nat.le_add_right _ _
    · exact Nat.le_add_right _ _
    · exact Nat.le_add_right _ _
    · exact Nat.le_refl _
    · exact Nat.le_add_right _ _
  exact I1.fpOk hle (I1.hok.fresh hle)
theorem walk_zipST {K : PySem.W.Frag} {x : Str} {b : Addr} {ys : List V} {n : Nat} (hn : n = min x.cps.size ys.length) : Walk (ItzST K x b) n (fun H => SqT K H b ys) (YPair (fun i => (x.cps[i]?).map fun c => .str ⟨#[c]⟩) (fun i => ys[i]?)) := by
  subst hn
  refine ⟨fun i H hi q => ?_, fun _ q => ⟨ys, q, by omega, by omega, by omega⟩, fun i H v H' _ q y => ?_⟩
  · have h1 : i < x.cps.size := by omega
    have h2 : i < ys.length := by omega
    exact ⟨ys, ys[i], q, h1, by simp [h2]⟩
  · obtain ⟨T, c, y, e1, e2, e3, e4, e5⟩ := y
    exact ⟨T, .str ⟨#[c]⟩, y, e1, e2, e3, by show (x.cps[i]?).map _ = _; rw [e4]; rfl, e5 ys q⟩
end HE
/-! t[k::2] of a tuple -/
namespace HP
open PySem PySem.Spec PyProof.Rows L2
def ev2 {α : Type} : List α → List α
  | [] => []
  | [x] => [x]
  | x :: _ :: r => x :: ev2 r
theorem pick2 {α : Type} : ∀ (ys : List α), ((List.range ((ys.length + 1) / 2)).filterMap fun j => ys[j * 2]?) = ev2 ys
  | [] => by
    rw [show (([] : List α).length + 1) / 2 = 0 by simp]
    rfl
  | [x] => by
    rw [show ([x].length + 1) / 2 = 1 by simp]
    rfl
  | x :: y :: r => by
    have e : ((x :: y :: r).length + 1) / 2 = (r.length + 1) / 2 + 1 := by rw [List.length_cons, List.length_cons]; omega
    rw [e, List.range_succ_eq_map, List.filterMap_cons, List.filterMap_map]
    show x :: (List.range ((r.length + 1) / 2)).filterMap ((fun j => (x :: y :: r)[j * 2]?) ∘ Nat.succ) = x :: ev2 r
    rw [← pick2 r]
    congr 2
    funext j
    show (x :: y :: r)[(j + 1) * 2]? = r[j * 2]?
    rw [show (j + 1) * 2 = j * 2 + 1 + 1 by omega, List.getElem?_cons_succ, List.getElem?_cons_succ]
theorem ev2_len {α : Type} : ∀ (ys : List α), (ev2 ys).length ≤ ys.length
  | [] => Nat.le_refl _
  | [x] => Nat.le_refl _
  | x :: y :: r => by
    have := ev2_len r
    show (ev2 r).length + 1 ≤ r.length + 1 + 1
    omega
theorem vals_ev2 : ∀ {xs : List V} {us : List Value}, Vals xs us → Vals (ev2 xs) (ev2 us)
  | _, _, .nil => .nil
  | _, _, .cons a .nil => .cons a .nil
  | _, _, .cons a (.cons b t) => .cons a (vals_ev2 t)
section
variable {prog : Program} {w : World} {A : Around} {E : Value → Shared → Prop} {s : Shared}
theorem adjust_two (lo : Option Int) (n : Nat) : Builtin.Slice.sliceAdjust lo none 2 (n : Int) = (((HT.sIx n 0 lo : Nat) : Int), (n : Int)) := by
  have h1 : ¬ ((2 : Int) < 0) := by omega
  unfold Builtin.Slice.sliceAdjust
  simp only [h1, if_false]
  refine Prod.ext ?_ rfl
  cases lo with
  | none => rfl
  | some v => exact HT.clip_eq v n 0
theorem places_two (i n : Nat) (h : i ≤ n) : Builtin.Slice.slicePlaces (i : Int) (n : Int) 2 = (n - i + 1) / 2 := by
  unfold Builtin.Slice.slicePlaces
  have h1 : (2 : Int) > 0 := by omega
  simp only [h1, if_true]
  split <;> omega
theorem sliceApplied_two {sl : Addr} {vl vs : Value} {lo : Option Int} {n : Nat} {Q : Int × Int × Nat → Shared → Prop} (hs : s.heap.IsSliceOf sl vl .none vs) (pl : IsPart vl lo) (ps : IsPart vs (some 2))
    (h : Q (((HT.sIx n 0 lo : Nat) : Int), 2, (n - HT.sIx n 0 lo + 1) / 2) s) : wpAny (model prog w) A (Builtin.Slice.sliceApplied (.ref sl) (pure (n : Int))) Q E s := by
  obtain ⟨os, hos, hcs, hds⟩ := id hs
  unfold Builtin.Slice.sliceApplied Builtin.Slice.sliceFields
  refine wpAny_bind (wpAny_bind (wpAny_field hos hds (x := vl) rfl (wpAny_bind (wpAny_field hos hds (x := .none) rfl (wpAny_bind (wpAny_field hos hds (x := vs) rfl (wpAny_pure ?_)))))))
  refine wpAny_bind (HT.slicePart_ ps ?_)
  show wpAny _ _ (if ((2 : Int) == 0) = true then _ else _) _ _ s
  rw [if_neg (by decide)]
  refine wpAny_bind (HT.slicePart_ pl (wpAny_bind (HT.slicePart_ .none (wpAny_bind (wpAny_pure ?_)))))
  show wpAny _ _ (match Builtin.Slice.sliceAdjust lo none 2 (n : Int) with | (lo, hi) => pure (lo, (2 : Int), Builtin.Slice.slicePlaces lo hi 2)) _ _ s
  rw [adjust_two lo n]
  show wpAny _ _ (pure (((HT.sIx n 0 lo : Nat) : Int), (2 : Int), Builtin.Slice.slicePlaces ((HT.sIx n 0 lo : Nat) : Int) (n : Int) 2)) _ _ s
  rw [places_two _ _ (HT.sIx_le _ _ (Nat.zero_le _) lo)]
  exact wpAny_pure h
theorem pick_two (xs : Array Value) (i : Nat) : ((List.range ((xs.size - i + 1) / 2)).filterMap fun (m : Nat) => xs[((i : Int) + (m : Int) * 2).toNat]?).toArray = (ev2 (xs.toList.drop i)).toArray := by
  have e : (fun (m : Nat) => xs[((i : Int) + (m : Int) * 2).toNat]?) = fun m => (xs.toList.drop i)[m * 2]? := by
    funext m
    have : ((i : Int) + (m : Int) * 2).toNat = i + m * 2 := by omega
    rw [this, List.getElem?_drop, Array.getElem?_toList]
  rw [e, ← pick2 (xs.toList.drop i), List.length_drop, Array.length_toList]
theorem getItem_tuple_two {t sl : Addr} {items : Array Value} {vl vs : Value} {lo : Option Int} {Q : Value → Shared → Prop} (ht : IsTup s.heap t items) (hs : s.heap.IsSliceOf sl vl .none vs) (pl : IsPart vl lo) (ps : IsPart vs (some 2))
    (h : Q (.ref s.heap.objs.size) { s with heap := s.heap.push { cls := .type "tuple", data := .seq (ev2 (items.toList.drop (HT.sIx items.size 0 lo))).toArray } })
    (hsz : items.size ≤ sizeLine) : wpAny (model prog w) A (getItem (.ref t) (.ref sl)) Q E s := by
  have htake : sizeOk (.seq (ev2 (items.toList.drop (HT.sIx items.size 0 lo))).toArray) := by
    show (ev2 (items.toList.drop (HT.sIx items.size 0 lo))).toArray.size ≤ sizeLine
    have := ev2_len (items.toList.drop (HT.sIx items.size 0 lo))
    have e : items.toList.length = items.size := Array.length_toList
    rw [List.length_drop, e] at this
    rw [List.size_toArray]
    omega
  obtain ⟨os, hos, hcs, hds⟩ := id hs
  have hTs : s.TypeIs (.ref sl) "slice" := ⟨os, hos, hcs⟩
  unfold getItem
  try with_reducible refine wpAny_holding ?_
  first | refine wpAny_bind (wpAny_pure ?_) | skip
  refine wpAny_bind (wpAny_sequenceKey ht.typeIs (by decide) ?_)
  refine wpAny_bind (wpAny_callSpecial?_slot (name := Str.ofString "__getitem__") ht.typeIs PyProof.Rows.slot_tuple_getitem
    (wpAny_call_entry PyProof.Rows.slot_tuple_getitem ht.typeIs entry_tuple_getitem ?_ (args_tuple_getitem _ _)))
  show wpAny _ _ (Builtin.Tuple.tupleItemsOf (.ref t) >>= _) _ _ s
  refine wpAny_bind (tupleItemsOf_ ht ?_)
  refine wpAny_bind (wpAny_typeOf hTs ?_)
  rw [if_pos (by decide)]
  refine wpAny_bind (sliceApplied_two hs pl ps ?_)
  have hno : ¬ ((((HT.sIx items.size 0 lo : Nat) : Int) == 0 && (2 : Int) == 1 && ((items.size - HT.sIx items.size 0 lo + 1) / 2) == items.size) = true) := by
    intro q
    rw [Bool.and_eq_true, Bool.and_eq_true] at q
    exact absurd q.1.2 (by decide)
  show wpAny _ _ (if (((HT.sIx items.size 0 lo : Nat) : Int) == 0 && (2 : Int) == 1 && ((items.size - HT.sIx items.size 0 lo + 1) / 2) == items.size) = true then _ else _) _ _ s
  rw [if_neg hno, pick_two]
  first
    | exact wpAny_bind (m := Builtin.Tuple.tupleExact _) (wpAny_newObj_type (wpAny_pure ⟨_, rfl, wpAny_pure h⟩) htake)
    | exact wpAny_bind (m := Builtin.Tuple.tupleExact _) (wpAny_newObj_type (wpAny_bind (wpAny_pure (wpAny_pure ⟨_, rfl, wpAny_pure h⟩))) htake)
    | exact wpAny_bind (wpAny_bind (m := Builtin.Tuple.tupleExact _) (wpAny_newObj_type (wpAny_pure (wpAny_pure ⟨_, rfl, wpAny_pure h⟩)) htake))
    | exact wpAny_bind (wpAny_bind (m := Builtin.Tuple.tupleExact _) (wpAny_newObj_type (wpAny_pure ⟨_, rfl, wpAny_pure h⟩) htake))
end
/-- t[k::2] -/
def tTwoT (K : PySem.W.Frag) (te : TE) (tl : TO) : TE := fun σ H Q => te σ H fun x H1 => tl σ H1 fun lo H2 => ∃ a xs, x = .ref a ∧ SqT K H2 a xs ∧ ∀ p, H2 p = none → Q (.ref p) (upd H2 p (.tup (ev2 (xs.drop (HT.sIx xs.length 0 lo)))))
section
variable {X : Cx}
theorem pe_twoT {e : Expr} {lo : Option Expr} {te : TE} {tl : TO} {k : Nat} {p2 p3 pos : Pos} (he : PE X e te) (hl : PO X lo tl) : PE X (.Subscript e (.Slice lo none (some (.Constant (.int 2) k p2)) p3) pos) (tTwoT X.K te tl) := by
  refine ⟨fun pins s σ H Q I h => ?_⟩
  refine Subscript_ (thn (he.run pins s σ H _ I h) fun v s1 ⟨x, H1, I1, r1, q1⟩ => ?_)
  have hst : PO X (some (.Constant (.int 2) k p2)) (tPart (tC (.int 2))) := po_some pe_int
  refine wpAny_Slice (thn (hl.run pins s1 σ H1 _ I1 q1) fun vl s2 ⟨l, H2, I2, pl, a, xs, ex, hx, q⟩ => ?_)
  subst ex
  cases r1
  refine thn (po_none.run pins s2 σ H2 (fun o H3 => o = none ∧ H3 = H2) I2 ⟨rfl, rfl⟩) fun vu s3 ⟨u, H3, I3, pu, eu, e3⟩ => ?_
  subst eu e3
  refine thn (hst.run pins s3 σ H3 (fun o H4 => o = some 2 ∧ H4 = H3) I3 ⟨2, rfl, rfl, rfl⟩) fun vs s4 ⟨o, H4, I4, ps, eo, e4⟩ => ?_
  subst eo e4
  have I5 : Inv X pins σ H4 { s4 with heap := s4.heap.push { cls := .type "slice", data := .fields #[vl, vu, vs] } } := I4.kept (t' := s4.toks) fun b ob q => Heap.get?_push_of_some _ q
  obtain ⟨its, r, ht, hz⟩ := I5.tuple hx
  have hlen : its.toArray.size = xs.length := by rw [List.size_toArray]; exact r.length.symm
  have hvu : vu = .none := by cases pu; rfl
  subst hvu
  show wpAny (model X.prog X.w) X.A (subscriptTail e (.Slice lo none (some (.Constant (.int 2) k p2)) p3) (.ref a) (.ref s4.heap.objs.size)) (EP X pins σ Q) X.xe { s4 with heap := s4.heap.push { cls := .type "slice", data := .fields #[vl, .none, vs] } }
  refine tail_any (ops := [.ref a, .ref s4.heap.objs.size]) ht.typeIs (PyProof.Rows.slot_tuple_getitem.lookup) ?_ (by with_unfolding_all rfl)
  refine getItem_tuple_two ht (Heap.IsSliceOf.new _ vl .none vs) pl ps ?_ (by rw [hlen]; exact hz)
  rw [hlen]
  refine ⟨.ref _, _, I5.laid (t' := s4.toks) (o := .tup (ev2 (xs.drop (HT.sIx xs.length 0 l)))) (fun b ob q => Heap.get?_push_of_some _ q) (Nat.le_refl _) ?_, rfl, q _ (I5.hok.fresh (Nat.le_refl _))⟩
  have hle := ev2_len (xs.drop (HT.sIx xs.length 0 l))
  rw [List.length_drop] at hle
  exact ⟨by omega, _, vals_ev2 (r.drop (HT.sIx xs.length 0 l)), IsTup.new _ _⟩
end
end HP
/-! zip of a tuple and a text -/
namespace HE
open PySem PySem.Spec PySem.Calls PyProof.Rows L2 RZ
open Sem (wp)
/-- a tuple at b and the signs of x, as they stand at each turn -/
def ItzTS (K : PySem.W.Frag) (b : Addr) (x : Str) : It :=
  ⟨fun i H => ∃ (ys : List V) (y : V), SqT K H b ys ∧ i < x.cps.size ∧ ys[i]? = some y,
    fun i H v H' => ∃ (T : Addr) (c : Nat) (y : V), v = .ref T ∧ H T = none ∧ H' = upd H T (.tup [y, .str ⟨#[c]⟩]) ∧ x.cps[i]? = some c ∧ ∀ ys, SqT K H b ys → ys[i]? = some y,
    fun i H => ∃ ys : List V, SqT K H b ys ∧ i ≤ x.cps.size ∧ i ≤ ys.length ∧ (x.cps.size ≤ i ∨ ys.length ≤ i)⟩
def ZTtS (z TI TO i1 i2 b : Addr) (x : Str) (t : Tok) (i : Nat) (h : Heap) : Prop := IsZip h z TI TO .none ∧ IsTupOf2 h TI (.ref i1) (.ref i2) ∧ (∃ x y, IsTupOf2 h TO x y) ∧ h.IsTupleIter i1 b i ∧ h.IsStrIter i2 (strIterType x) x t i
theorem ZTtS.live {z TI TO i1 i2 b : Addr} {x : Str} {t : Tok} {i : Nat} {h : Heap} (st : ZTtS z TI TO i1 i2 b x t i h) {c : Addr} (hc : c ∈ [z, TI, TO, i1, i2]) : ∃ o, h.get? c = some o ∧ ∀ v, o.data ≠ .cell v := by
  obtain ⟨h1, h2, ⟨x, y, h3⟩, ⟨p, e4, _, d4⟩, ⟨q, e5, _, d5⟩⟩ := st
  rcases mem5 hc with e | e | e | e | e <;> subst e
  · exact ⟨_, h1, fun v q => nomatch q⟩
  · exact ⟨_, h2, fun v q => nomatch q⟩
  · exact ⟨_, h3, fun v q => nomatch q⟩
  · exact ⟨p, e4, fun v q => by rw [d4] at q; cases q⟩
  · exact ⟨q, e5, fun v z => by rw [d5] at z; cases z⟩
theorem sep_ofT {n b : Addr} (hb : b < n) : ZipSep2 (n + 4) (n + 2) (n + 3) n (n + 1) [n, b] [n + 1] := by
  have e : ∀ k j : Nat, k ≠ j → n + k ≠ n + j := fun k j h z => h (Nat.add_left_cancel z)
  have ne : ∀ {c : Addr} (k : Nat), c < n → n + k ≠ c := fun k h z => Nat.lt_irrefl n (Nat.lt_of_le_of_lt (Nat.le_add_right n k) (z ▸ h))
  constructor
  · exact e 2 4 (by decide)
  · exact e 3 4 (by decide)
  · exact e 2 3 (by decide)
  · exact e 2 0 (by decide)
  · simp
  · simp only [List.mem_cons, List.not_mem_nil, or_false, not_or]; exact ⟨e 4 0 (by decide), ne 4 hb⟩
  · simp only [List.mem_cons, List.not_mem_nil, or_false, not_or]; exact ⟨e 3 0 (by decide), ne 3 hb⟩
  · exact e 2 1 (by decide)
  · simp
  · simp only [List.mem_cons, List.not_mem_nil, or_false, not_or]; exact e 4 1 (by decide)
  · simp only [List.mem_cons, List.not_mem_nil, or_false, not_or]; exact e 3 1 (by decide)
  · simp only [List.mem_cons, List.not_mem_nil, or_false, not_or]; exact e 0 1 (by decide)
  · simp only [List.mem_cons, List.not_mem_nil, or_false, not_or]; exact ⟨e 1 0 (by decide), ne 1 hb⟩
theorem turn_zipTS {P : Program} {w : World} {K : PySem.W.Frag} {elts : List Expr} {kk : Nat} {tpos : Pos} {x : Str} {t : Tok} {b z TI TO i1 i2 : Addr} (D : ZipSep2 z TI TO i1 i2 [i1, b] [i2]) (hbi : b ≠ i1) (hz1 : i1 ≠ z) (hz2 : i2 ≠ z) :
    Turn P w K (.Tuple elts kk tpos) (ItzTS K b x) [z, TI, TO, i1, i2] z (ZTtS z TI TO i1 i2 b x t) where
  mem := by simp
  obj := fun i h st c hc => st.live hc
  keep := fun i h h' st k => by
    obtain ⟨h1, h2, ⟨x, y, h3⟩, h4, h5⟩ := st
    exact ⟨k z (by simp) _ h1, k TI (by simp) _ h2, ⟨x, y, k TO (by simp) _ h3⟩, h4.at fun o q => k i1 (by simp) o q, strIter_at h5 fun o q => k i2 (by simp) o q⟩
  item := by
    intro X hP hw hK hc i pins s σ H E I hf st hg
    subst hP hw hK
    obtain ⟨g1, g2, ⟨x0, y0, g3⟩, g4, g5⟩ := id st
    obtain ⟨ys, y, hqy, hx, hy⟩ := hg
    obtain ⟨its2, rv2, p2, _⟩ := I.tuple hqy
    obtain ⟨u2, hu2, ru2⟩ := rv2.get hy
    have ht : s.heap.IsTuple b its2.toArray := p2
    have lt2 : i < its2.toArray.size := by have := (List.getElem?_eq_some_iff.mp hu2).1; simpa using this
    have zl : z < s.heap.objs.size := Heap.lt_size g1
    refine wpAny_pyNext_zipD2_item D (PySem.Draws.tuple (A := X.A.in1) (I.ok.hd hc) i1 b hbi its2.toArray) (PySem.Draws.text (A := X.A.in1) (I.ok.hd hc) i2 x t) g1 g2 g3 ⟨g4, ht⟩ g5 lt2 hx
      fun v2 v1 h' tk e2 e1 z' t' s2 s1 hT hsz hk => ?_
    obtain ⟨c, uc, hcc, rfl⟩ := e1
    have ev2 : v2 = u2 := by
      have h1 : its2.toArray[i]? = some u2 := by simpa using hu2
      rw [e2] at h1
      exact Option.some.inj h1
    subst ev2
    refine ⟨_, rfl, wpAny_letOwnedTupleGo_zip (s := { s with heap := h', toks := tk }) z' fun h2 z2 sb => ?_⟩
    have nz : s.heap.objs.size ≠ z := Nat.ne_of_gt zl
    have hT2 : h2.get? s.heap.objs.size = some { cls := .type "tuple", data := .seq #[v2, .str ⟨#[c]⟩ uc] } := (sb.2 _ nz).trans hT
    have old : ∀ c o, c ∉ [z, TI, TO, i1, i2] → s.heap.get? c = some o → h2.get? c = some o := fun c o hm q => by
      simp only [List.mem_cons, List.not_mem_nil, or_false, not_or] at hm
      exact (sb.2 c hm.1).trans (hk c o hm.1 hm.2.2.1 hm.2.2.2.1 hm.2.2.2.2 q)
    have new : ObjOk X.prog X.w (upd H s.heap.objs.size (.tup [y, .str ⟨#[c]⟩])) h2 s.heap.objs.size (.tup [y, .str ⟨#[c]⟩]) :=
      ⟨by show 2 ≤ sizeLine; decide, [v2, .str ⟨#[c]⟩ uc], .cons ru2 (.cons ⟨uc, rfl⟩ .nil), ⟨_, hT2, rfl, _, rfl⟩⟩
    have I1 := I.turnedNew (t' := tk) (ch := [z, TI, TO, i1, i2]) (h' := h2) old hf (Nat.le_refl _) new
    refine ⟨.ref s.heap.objs.size, _, I1, rfl, ⟨_, c, y, rfl, I.hok.fresh (Nat.le_refl _), rfl, hcc, fun l hl => by rw [I.tuple_inj hl hqy]; exact hy⟩,
      ⟨z2, (sb.2 _ D.TIz).trans (hk _ _ D.TIz D.TITO D.TIi1 D.TIi2 g2), ⟨v2, _, (sb.2 _ D.TOz).trans t'⟩, s2.1.at fun o q => (sb.2 _ hz1).trans q, strIter_at s1 fun o q => (sb.2 _ hz2).trans q⟩, fun c hm => ?_⟩
    obtain ⟨o, ho, _⟩ := st.live hm
    rw [upd_ne (Nat.ne_of_lt (Heap.lt_size ho))]
    exact (hf c hm).1
  done := by
    intro X hP hw hK hc i pins s σ H E I hf st hg
    subst hP hw hK
    obtain ⟨g1, g2, ⟨x0, y0, g3⟩, g4, g5⟩ := st
    obtain ⟨ys, hqy, hi1, hi2, hend⟩ := hg
    obtain ⟨its2, rv2, p2, _⟩ := I.tuple hqy
    have ht : s.heap.IsTuple b its2.toArray := p2
    have l2 := rv2.length
    have fin : ∀ (h' : Heap) (tk : Nat), (∀ c o, c ≠ z → c ≠ TO → c ≠ i1 → c ≠ i2 → s.heap.get? c = some o → h'.get? c = some o) → (none : Option Value) = none ∧ Inv X pins σ H { s with heap := h', toks := tk } := fun h' tk hk =>
      ⟨rfl, I.turnedL (t' := tk) (ch := [z, TI, TO, i1, i2]) (fun c o hb q => by
        simp only [List.mem_cons, List.not_mem_nil, or_false, not_or] at hb
        exact hk c o hb.1 hb.2.2.1 hb.2.2.2.1 hb.2.2.2.2 q) hf⟩
    have hh := I.ok.hd hc
    refine wpAny_pyNext_zipD2_end D (PySem.Draws.tuple (A := X.A.in1) hh i1 b hbi its2.toArray) (PySem.Draws.text (A := X.A.in1) hh i2 x t) g1 g2 g3 ⟨g4, ht⟩ g5 (by simp only [List.size_toArray]; omega) hi1 ?_ fin
    rcases hend with h | h
    · exact .inr (by omega)
    · exact .inl (by simp only [List.size_toArray]; omega)
  self := fun A i s Q E st h => wpAny_pyIter_zip st.1 h
def iZipTS (K : PySem.W.Frag) (ta : TA) : TI := fun σ H R => ta σ H fun vs H1 => ∃ (x : Str) (b : Addr) (ys : List V), vs = [.ref b, .str x] ∧ SqT K H1 b ys ∧ R (ItzTS K b x) H1
theorem pi_zipTS {X : Cx} {e e2 : Expr} {ta : TA} {p pos tpos : Pos} {elts : List Expr} {kk : Nat} (hg : Gl X "zip") (hm : X.mg "zip" = none) (ha : PA X [e, e2] ta)
    (hs : starEach [e, e2] X.env = (false, eval e X.env) :: starEach [e2] X.env := by rfl) (hpl : (backTo pos (starEach [e2] X.env)).any (·.1) = false := by rfl) :
    PI X (.Tuple elts kk tpos) (.Call (.Name "zip" p) [e, e2] [] pos) (iZipTS X.K ta) := by
  refine ⟨fun pins s σ H R I h => ?_⟩
  refine Call_ (ld_blt I hg hm PyProof.Rows.boot_zip (PyProof.Rows.callWith_type1 (thn (ha.run pos pins s σ H _ I h) fun us s1 ⟨vs, H1, I1, r1, x, b, ys, ex, hqy, q⟩ => ?_) hs hpl))
  subst ex
  obtain ⟨u1, u2, rfl, ra, rb⟩ := vals2 r1
  obtain ⟨t, rfl⟩ := rb
  cases ra
  obtain ⟨its2, rv2, p2, _⟩ := I1.tuple hqy
  have ht : s1.heap.IsTuple b its2.toArray := p2
  have bl : b < s1.heap.objs.size := by obtain ⟨_, e, _⟩ := ht; exact Heap.lt_size e
  refine zip_begins2 (begins_tuple b its2.toArray) (begins_text x t) ht trivial fun h' hz hTI hTO k1 k2 hsz hk => wpAny_pyIter_zip hz ?_
  have I2 : Inv X pins σ H1 { s1 with heap := h' } := I1.kept (t' := s1.toks) hk
  have n1 : ∀ k : Nat, s1.heap.objs.size + (k + 1) ≠ s1.heap.objs.size := fun k z => absurd (Nat.add_left_cancel (show s1.heap.objs.size + (k + 1) = s1.heap.objs.size + 0 from z)) (Nat.succ_ne_zero k)
  have n2 : s1.heap.objs.size + 1 ≠ s1.heap.objs.size + 4 := fun z => absurd (Nat.add_left_cancel z) (by decide)
  refine ⟨s1.heap.objs.size + 4, _, _, _, H1, rfl, I2, turn_zipTS (x := x) (t := t) (sep_ofT bl) (Nat.ne_of_lt bl) (Ne.symm (n1 3)) n2, ⟨hz, hTI, ⟨_, _, hTO⟩, ⟨_, k1, rfl, rfl⟩, ⟨_, k2, rfl, rfl⟩⟩, fun c hm => ?_, q⟩
  have hle : s1.heap.objs.size ≤ c := by
    rcases mem5 hm with e | e | e | e | e <;> rw [e]
    · exact Nat.le_add_right _ _
    · exact Nat.le_add_right _ _
    · exact Nat.le_add_right _ _
    · exact Nat.le_refl _
    · exact Nat.le_add_right _ _
  exact I1.fpOk hle (I1.hok.fresh hle)
theorem walk_zipTS {K : PySem.W.Frag} {x : Str} {b : Addr} {ys : List V} {n : Nat} (hn : n = min x.cps.size ys.length) : Walk (ItzTS K b x) n (fun H => SqT K H b ys) (YPair (fun i => ys[i]?) (fun i => (x.cps[i]?).map fun c => .str ⟨#[c]⟩)) := by
  subst hn
  refine ⟨fun i H hi q => ?_, fun _ q => ⟨ys, q, by omega, by omega, by omega⟩, fun i H v H' _ q y => ?_⟩
  · have h1 : i < x.cps.size := by omega
    have h2 : i < ys.length := by omega
    exact ⟨ys, ys[i], q, h1, by simp [h2]⟩
  · obtain ⟨T, c, y, e1, e2, e3, e4, e5⟩ := y
    exact ⟨T, y, .str ⟨#[c]⟩, e1, e2, e3, e5 ys q, by show (x.cps[i]?).map _ = _; rw [e4]; rfl⟩
end HE
/-! data with new lists and empty dicts in it: isinstance and repr -/
namespace HM
open PySem PySem.Spec PyProof.Rows L2 HB HX HD
mutual
inductive Dx (K : PySem.W.Frag) (A : Addr → Prop) (H : Hp) : V → PyData → Prop
  | non : Dx K A H .non .none
  | bl (b : Bool) : Dx K A H (.bl b) (.bool b)
  | int (i : Int) : Dx K A H (.int i) (.int i)
  | str (x : Str) : Dx K A H (.str x) (.str x)
  | lst {a : Addr} {xs : List V} {ds : List PyData} : A a → H a = some (.lst xs) → DxAll K A H xs ds → Dx K A H (.ref a) (.list ds)
  | emp {a : Addr} : A a → H a = some (.dK []) → Dx K A H (.ref a) (.dict [])
  | tup {a : Addr} {xs : List V} {ds : List PyData} : SqT K H a xs → DxAll K A H xs ds → Dx K A H (.ref a) (.tuple ds)
inductive DxAll (K : PySem.W.Frag) (A : Addr → Prop) (H : Hp) : List V → List PyData → Prop
  | nil : DxAll K A H [] []
  | cons {v : V} {vs : List V} {d : PyData} {ds : List PyData} : Dx K A H v d → DxAll K A H vs ds → DxAll K A H (v :: vs) (d :: ds)
end
section
variable {K : PySem.W.Frag} {A B : Addr → Prop} {H H' : Hp}
mutual
theorem Dx.keep (k : ∀ a o, A a → H a = some o → H' a = some o) (kt : ∀ (a : Addr) (xs : List V), SqT K H a xs → SqT K H' a xs) (ab : ∀ a o, A a → H a = some o → B a) : ∀ {v : V} {d : PyData}, Dx K A H v d → Dx K B H' v d
  | _, _, .non => .non
  | _, _, .bl b => .bl b
  | _, _, .int i => .int i
  | _, _, .str x => .str x
  | _, _, .lst h1 h2 h3 => .lst (ab _ _ h1 h2) (k _ _ h1 h2) (DxAll.keep k kt ab h3)
  | _, _, .emp h1 h2 => .emp (ab _ _ h1 h2) (k _ _ h1 h2)
  | _, _, .tup h1 h2 => .tup (kt _ _ h1) (DxAll.keep k kt ab h2)
theorem DxAll.keep (k : ∀ a o, A a → H a = some o → H' a = some o) (kt : ∀ (a : Addr) (xs : List V), SqT K H a xs → SqT K H' a xs) (ab : ∀ a o, A a → H a = some o → B a) : ∀ {vs : List V} {ds : List PyData}, DxAll K A H vs ds → DxAll K B H' vs ds
  | _, _, .nil => .nil
  | _, _, .cons h t => .cons (Dx.keep k kt ab h) (DxAll.keep k kt ab t)
end
theorem Dx.same {v : V} {d : PyData} (h : Dx K A H v d) (s : Same H H') : Dx K A H' v d := h.keep (fun a o _ e => s a o e) (fun _ _ e => s.sqt e) fun _ _ e _ => e
theorem DxAll.same {vs : List V} {ds : List PyData} (h : DxAll K A H vs ds) (s : Same H H') : DxAll K A H' vs ds := h.keep (fun a o _ e => s a o e) (fun _ _ e => s.sqt e) fun _ _ e _ => e
mutual
theorem Dx.of : ∀ {v : V} {d : PyData}, HK.tupD d = true → Dp K H v d → Dx K A H v d
  | _, _, _, .non => .non
  | _, _, _, .bl b => .bl b
  | _, _, _, .int i => .int i
  | _, _, _, .str x => .str x
  | _, _, t, .lst h j => by cases t
  | _, _, t, .tup h j => .tup h (DxAll.of t j)
theorem DxAll.of : ∀ {vs : List V} {ds : List PyData}, HK.tupAll ds = true → DpAll K H vs ds → DxAll K A H vs ds
  | _, _, _, .nil => .nil
  | _, _, t, .cons h j => by
    simp only [HK.tupAll, Bool.and_eq_true] at t
    exact .cons (Dx.of t.1 h) (DxAll.of t.2 j)
end
mutual
theorem Dx.dp : ∀ {v : V} {d : PyData}, HK.tupD d = true → Dx K A H v d → Dp K H v d
  | _, _, _, .non => .non
  | _, _, _, .bl b => .bl b
  | _, _, _, .int i => .int i
  | _, _, _, .str x => .str x
  | _, _, t, .lst _ h j => by cases t
  | _, _, t, .emp _ h => by cases t
  | _, _, t, .tup h j => .tup h (DxAll.dp t j)
theorem DxAll.dp : ∀ {vs : List V} {ds : List PyData}, HK.tupAll ds = true → DxAll K A H vs ds → DpAll K H vs ds
  | _, _, _, .nil => .nil
  | _, _, t, .cons h j => by
    simp only [HK.tupAll, Bool.and_eq_true] at t
    exact .cons (Dx.dp t.1 h) (DxAll.dp t.2 j)
end
theorem dxAll_len : ∀ {vs : List V} {ds : List PyData}, DxAll K A H vs ds → vs.length = ds.length
  | _, _, .nil => rfl
  | _, _, .cons _ t => congrArg (· + 1) (dxAll_len t)
/-- the kind's name, of dicts too -/
def kindX : PyData → String
  | .dict _ => "dict"
  | d => kindD d
theorem dx_ty {v : V} {d : PyData} (h : Dx K A H v d) : TyX K H v (.type (kindX d)) ∧ kindX d ∈ ["NoneType", "bool", "int", "str", "list", "tuple", "dict"] := by
  cases h with
  | non => exact ⟨.base .non, by simp [kindX, kindD]⟩
  | bl b => exact ⟨.base (.bl b), by simp [kindX, kindD]⟩
  | int i => exact ⟨.base (.int i), by simp [kindX, kindD]⟩
  | str x => exact ⟨.base (.str x), by simp [kindX, kindD]⟩
  | lst _ h _ => exact ⟨.base (.lst h), by simp [kindX, kindD]⟩
  | emp _ h => exact ⟨.base (.dK h), by simp [kindX]⟩
  | tup h _ =>
    refine ⟨?_, by simp [kindX, kindD]⟩
    rcases h with (h | ⟨o, h⟩) | ⟨o, its, n, h, c, _⟩
    · exact .base (.tup h)
    · exact .fTuple h
    · exact .kTuple h c
theorem kit_x {d : PyData} {k : String} (hk : k ∈ ["str", "tuple", "bool", "list", "dict"]) (h : kindX d ∈ ["NoneType", "bool", "int", "str", "list", "tuple", "dict"]) : PySem.W.kitOne K (.type (kindX d)) (.type k) = some (decide (kindX d = k)) := by
  have : kitB (kindX d) k = some (decide (kindX d = k)) := by
    generalize kindX d = j at h
    simp only [List.mem_cons, List.not_mem_nil, or_false] at hk h
    rcases hk with rfl | rfl | rfl | rfl | rfl <;> rcases h with rfl | rfl | rfl | rfl | rfl | rfl | rfl <;> decide +kernel
  exact kit_ty this
theorem kit_xInt {d : PyData} (h : kindX d ∈ ["NoneType", "bool", "int", "str", "list", "tuple", "dict"]) : PySem.W.kitOne K (.type (kindX d)) (.type "int") = some (decide (kindX d = "int" ∨ kindX d = "bool")) := by
  have : kitB (kindX d) "int" = some (decide (kindX d = "int" ∨ kindX d = "bool")) := by
    generalize kindX d = j at h
    simp only [List.mem_cons, List.not_mem_nil, or_false] at h
    rcases h with rfl | rfl | rfl | rfl | rfl | rfl | rfl <;> decide +kernel
  exact kit_ty this
end
section
variable {X : Cx} {pins : List (Addr × Obj)} {σ : L2.St} {H : Hp} {s : Shared} {A : Addr → Prop}
theorem no_sys (hs : (X.K.lookup sysModules).isSome = true) (I : Inv X pins σ H s) : H sysModules = none := by
  obtain ⟨o, ho⟩ := Option.isSome_iff_exists.mp hs
  exact (I.bs _ _ (I.mod.kin _ _ ho)).2
mutual
theorem Dx.reads (hs : (X.K.lookup sysModules).isSome = true) (I : Inv X pins σ H s) : ∀ (d : PyData) (v : V) (u : Value), Dx X.K A H v d → RelV v u → ∃ as, Reads s.heap u d as ∧ sysModules ∉ as
  | .none, _, _, h, r => by
    cases h
    cases r
    exact ⟨_, Reads.none, List.not_mem_nil⟩
  | .bool b, _, _, h, r => by
    cases h
    cases r
    exact ⟨_, Reads.bool b, List.not_mem_nil⟩
  | .int i, _, _, h, r => by
    cases h
    obtain ⟨t, rfl⟩ := r
    exact ⟨_, Reads.int i t, List.not_mem_nil⟩
  | .str x, _, _, h, r => by
    cases h
    obtain ⟨t, rfl⟩ := r
    exact ⟨_, Reads.str x t, List.not_mem_nil⟩
  | .list ds, _, _, h, r => by
    cases h with
    | lst _ hs2 ha =>
      cases r
      obtain ⟨its, rv, ⟨o, n, ho, hc, _, hd⟩, _⟩ := I.list (.inl (.inl hs2))
      obtain ⟨as, hr, hn⟩ := Dx.readsAll hs I ds _ its ha rv
      refine ⟨_, Reads.list ho hc hd hr, fun m => ?_⟩
      rcases List.mem_cons.mp m with e | m
      · rw [← e, no_sys hs I] at hs2
        cases hs2
      · exact hn m
  | .tuple ds, _, _, h, r => by
    cases h with
    | tup hs2 ha =>
      cases r
      obtain ⟨its, rv, ⟨o, ho, hc, n, hd⟩, _⟩ := I.tuple hs2
      obtain ⟨as, hr, hn⟩ := Dx.readsAll hs I ds _ its ha rv
      exact ⟨_, Reads.tuple ho hc hd hr, hn⟩
  | .dict _, _, _, h, r => by
    cases h with
    | emp _ h2 =>
      cases r
      obtain ⟨_, _, vs, rel, o, es, ep, ho, hx, hd, _, hp, _⟩ := dk_of I.hok h2
      cases rel
      have e0 : es.toList = [] := by
        generalize es.toList = l at hp
        cases hp
        rfl
      refine ⟨_, Reads.dict (as := []) (bs := []) ho hx.1 hd (by rw [e0]; exact .nil) (by rw [e0]; exact .nil), fun m => ?_⟩
      rcases List.mem_cons.mp m with e | m
      · rw [← e, no_sys hs I] at h2
        cases h2
      · cases m
theorem Dx.readsAll (hs : (X.K.lookup sysModules).isSome = true) (I : Inv X pins σ H s) : ∀ (ds : List PyData) (vs : List V) (us : List Value), DxAll X.K A H vs ds → Vals vs us → ∃ as, ReadsAll s.heap us ds as ∧ sysModules ∉ as
  | [], _, _, h, r => by
    cases h
    cases r
    exact ⟨_, ReadsAll.nil, List.not_mem_nil⟩
  | d :: ds, _, _, h, r => by
    cases h with
    | cons h1 h2 =>
      cases r with
      | cons r1 r2 =>
        obtain ⟨as, q1, n1⟩ := Dx.reads hs I d _ _ h1 r1
        obtain ⟨bs, q2, n2⟩ := Dx.readsAll hs I ds _ _ h2 r2
        exact ⟨_, ReadsAll.cons q1 q2, fun m => (List.mem_append.mp m).elim n1 n2⟩
end
def rReprX (K : PySem.W.Frag) : List V → Hp → VK → Prop := fun vs H Q => ∃ (A : Addr → Prop) (a : Addr) (d : PyData), vs = [.ref a] ∧ Dx K A H (.ref a) d ∧ d.showable = true ∧ d.depth ≤ 60 ∧ d.shown.length ≤ sizeLine ∧ Q (.str d.shown) H
theorem call_reprX (hs : (X.K.lookup sysModules).isSome = true) (sh : HG.Shut X.A) (hu : X.A.units + 64 < cLine) : CallR X (.builtin "repr") (rReprX X.K) := by
  intro pins s σ H vs us Q I r h
  obtain ⟨A, a, d, rfl, hd, sw, dep, len, q⟩ := h
  obtain ⟨u, rfl, rx⟩ := vals1 r
  obtain ⟨as, r1, nm⟩ := Dx.reads hs I d _ u hd rx
  cases rx
  exact repr_of_reads' r1 sw (fun _ => nm) sh (by omega) (fun _ _ e => e) (fun h' u tk hk => ⟨.str d.shown, H, I.kept hk, ⟨u, rfl⟩, q⟩) len
end
end HM
/-! isinstance of a caught error of an own class that has its own dict; methods that may raise, within a try -/
namespace HA
open PySem PySem.Spec PySem.Calls PyProof.Rows PySem.W
section
variable {prog : Program} {w : World} {A : Around} {E : Value → Shared → Prop} {s : Shared} {K : Frag} {x D : Addr} {ox : Obj} {od : Option Obj}
theorem findObj_dataX {C : Addr} {name : Str} {a g : Value} (hc : (clsIn K C).isSome = true) (ha : findIn K (.ref C) name = some (some a)) (hg : specialIn K a "__get__" = some (some g)) (ht : takesIn K a = some true) : findObj K C od name = some (.bind g a) := by
  obtain ⟨cd, hc⟩ := Option.isSome_iff_exists.mp hc
  unfold findObj
  rw [hc, Option.bind_some, ha, Option.bind_some]
  simp [hg, ht]
theorem kin_classX {Q : Option Value → Shared → Prop} (hga : findIn K (.ref D) "__getattribute__" = some (some (.builtin "BaseException.__getattribute__"))) (hgt : findIn K (.ref D) "__getattr__" = some none) (hsub : subIn K (.ref D) (.type "BaseException") = some true)
    (hdct : hasDictIn K D = true) (ha : findIn K (.ref D) "__class__" = some (some (.builtin "object.__class__")))
    (hn : specialIn K (.builtin "object.__class__") "__get__" = some (some (.builtin "getset_descriptor.__get__"))) (htk : takesIn K (.builtin "object.__class__") = some true) (hm : mroIn K D (.type "object") = some true)
    (X : K.In s.heap) (I : InstAt s.heap x ox D od) (h : Q (some (.ref D)) { s with toks := s.toks + 1 }) : wpAny (model prog w) A (getAttr? (.ref x) "__class__") Q E s := by
  have hf : findObj K D od "__class__" = some (.bind (.builtin "getset_descriptor.__get__") (.builtin "object.__class__")) := findObj_dataX (by obtain ⟨cd, hc, _⟩ := any_some hdct; rw [hc]; rfl) ha hn htk
  obtain ⟨hp, g, d, t, os⟩ := s
  have L0 := I.type (M := model prog w)
  have L1 := looks_findIn (M := model prog w) X hga
  have L2 := looks_findIn (M := model prog w) X hgt
  have L3 := looks_find (M := model prog w) X I hf
  have sub : Looks (model prog w) hp (isInstance (.ref x) (.type "BaseException")) true := L0.andThen (looks_subIn X hsub)
  have hx0 : (false && onTheHeap (Value.builtin "BaseException.__getattribute__")) = false := rfl
  have hx2 : (Value.builtin "BaseException.__getattribute__" == Value.builtin "object.__getattribute__") = false := by decide +kernel
  have hx1 : (onTheHeap (Value.ref D) && Value.builtin "BaseException.__getattribute__" == Value.builtin "object.__getattribute__") = false := by rw [hx2]; rfl
  unfold getAttr? getAttrBy? getAttrBy
  refine wpAny_bind (wpAny_mkText (wpAny_bind (wpAny_attempt (wpAny_holding (wpAny_bind (L0.at (wpAny_bind (L1.at ?_))))))))
  show wpAny _ _ (if (onTheHeap (Value.ref D) && Value.builtin "BaseException.__getattribute__" == Value.builtin "object.__getattribute__") = true then _ else _) _ _ _
  rw [hx1, if_neg Bool.false_ne_true]
  unfold getAttrByItsOwn hookBefore
  refine wpAny_bind ?_
  rw [if_pos (show onTheHeap (Value.ref D) = true from rfl)]
  refine L2.at ?_
  refine wpAny_bind (wpAny_attempt (wpAny_holding ?_))
  unfold callGetattribute
  rw [hx0, if_neg Bool.false_ne_true]
  unfold boundAndCalled
  rw [PySem.F.excAttr_ValueError.ga.bind (.ref x)]
  refine wpAny_bind (wpAny_pure ?_)
  show wpAny _ _ (call (.builtin "BaseException.__getattribute__") [.ref x, .str "__class__" t]) _ _ _
  refine wpAny_call (codeAny_call_builtin PySem.F.excAttr_ValueError.ga.plain PySem.F.entry_bexc_ga ?_)
  refine @check_slot (model prog w) _ _ ⟨hp, g, d, t + 1, os⟩ "BaseException.__getattribute__" "BaseException" "__getattribute__" (.ref x) [.str "__class__" t] [] _ (by decide +kernel) (by decide +kernel) sub (PySem.F.args_bexc_ga (.ref x) (.str "__class__" t)) ?_
  unfold Builtin.«object.__getattribute__»
  refine wpAny_bind (wpAny_of_eq (a := ((Value.ref x : Value), [Value.str "__class__" t])) (by first | rfl | (simp only [slotArgs]; rfl)) ?_)
  refine wpAny_bind (wpAny_pure (wpAny_bind (L0.at (wpAny_bind (L3.at ?_)))))
  show wpAny _ _ (holding [Value.builtin "object.__class__"] (call (.builtin "getset_descriptor.__get__") [.builtin "object.__class__", .ref x, .ref D]) >>= ret) _ _ _
  refine wpAny_bind (wpAny_holding (wpAny_call (class_get (s := ⟨hp, g, d, t + 1, os⟩) (ox := ox) (od := od) X I hm ?_)))
  refine wpAny_pure ?_
  show wpAny _ _ (handedOut (.ref D)) _ _ _
  rw [handedOut_of (v := .ref D) rfl]
  first
    | exact wpAny_pure (wpAny_pure h)
    | exact wpAny_pure h
    | exact wpAny_pure (wpAny_bind (wpAny_pure (wpAny_pure h)))
theorem kitx_exc (hga : findIn K (.ref D) "__getattribute__" = some (some (.builtin "BaseException.__getattribute__"))) (hgt : findIn K (.ref D) "__getattr__" = some none) (hsub : subIn K (.ref D) (.type "BaseException") = some true) (hdct : hasDictIn K D = true) (ha : findIn K (.ref D) "__class__" = some (some (.builtin "object.__class__")))
    (hn : specialIn K (.builtin "object.__class__") "__get__" = some (some (.builtin "getset_descriptor.__get__"))) (htk : takesIn K (.builtin "object.__class__") = some true) (hm : mroIn K D (.type "object") = some true) :
    KitX K (.ref x) (.ref D) (fun h => InstAt h x ox D od) where
  ty := fun _ _ _ I => I.type
  it := fun _ _ X _ => by
    obtain ⟨cdD, hcD, _⟩ := any_some hdct
    unfold clsIn at hcD
    split at hcD
    · rename_i c' d' cd' sl' ho
      intro A' Q' E' s' k q
      unfold isType loadHead
      exact wpAny_bind (wpAny_loadPart (k _ _ (X _ _ ho)) (wpAny_pure q))
    · cases hcD
  ne := fun h tp dd its n sl X htp => by
    obtain ⟨cdD, hcD, _⟩ := any_some hdct
    refine Bool.eq_false_iff.mpr fun q => ?_
    have e : D = tp := Value.ref.inj (beq_iff_eq.mp q)
    subst e
    unfold clsIn at hcD
    split at hcD
    · rename_i c' d' cd' sl' ho
      have z := (X _ _ ho).symm.trans htp
      cases z
    · cases hcD
  ca := fun X I k => kin_classX hga hgt hsub hdct ha hn htk hm X I k
end
end HA
namespace HA
open PySem PySem.Spec PyProof.Rows L2
theorem u65 {k : Nat} {A : Around} (r : Room k A) : A.units + 65 < cLine := by have := r.un; omega
/-- what the head asks of such a class -/
def ecB (K : PySem.W.Frag) (D : Addr) : Bool := decide (PySem.W.findIn K (.ref D) "__getattribute__" = some (some (.builtin "BaseException.__getattribute__"))) && (decide (PySem.W.findIn K (.ref D) "__getattr__" = some none) && (decide (PySem.W.subIn K (.ref D) (.type "BaseException") = some true) && (PySem.W.hasDictIn K D &&
  (decide (PySem.W.findIn K (.ref D) "__class__" = some (some (.builtin "object.__class__"))) && (decide (PySem.W.specialIn K (.builtin "object.__class__") "__get__" = some (some (.builtin "getset_descriptor.__get__"))) && (decide (PySem.W.takesIn K (.builtin "object.__class__") = some true) && decide (PySem.W.mroIn K D (.type "object") = some true)))))))
theorem ecB_ok {K : PySem.W.Frag} {D : Addr} (h : ecB K D = true) : ExcC K D := by
  unfold ecB at h
  simp only [Bool.and_eq_true, decide_eq_true_eq] at h
  obtain ⟨h1, h2, h3, h4, h5, h6, h7, h8⟩ := h
  exact ⟨h1, h2, h3, h4, h5, h6, h7, h8⟩
/-- isinstance(e, C), C an own class -/
def isB (C D : Str) (b : Bool) : PySem.W.Frag → Bool := fun K => decide (PySem.W.kitOne K (.ref (He.ga K C)) (.ref (He.ga K D)) = some b)
/-- isinstance(e, c), e the exception that the suite holds -/
def rIsX (K : PySem.W.Frag) (cls : Value) (d : Option Addr) (a : Addr) : List V → Hp → VK → Prop := fun xs H Q => ∃ (D C dd : Addr) (fs : List (Str × V)) (b : Bool), xs = [.ref a, .ref C] ∧ cls = .ref D ∧ ExcC K D ∧ d = some dd ∧ H dd = some (.xd fs) ∧ PySem.W.kitOne K (.ref D) (.ref C) = some b ∧ Q (.bl b) H
theorem call_isX {X : Cx} {a : Addr} {oe : Obj} {cls : Value} {d : Option Addr} {pn : List (Addr × Obj)} (hz : Zc cls d oe) (hf : ∃ vs, oe.data = .fields vs) : CallR (X.suite a ((a, oe) :: pn)) (.builtin "isinstance") (rIsX X.K cls d a) := by
  intro pins s σ H xs us Q I r h
  obtain ⟨D, c, dd, fs, b, rfl, rfl, C, rfl, hdd, e, q⟩ := h
  cases r with
  | cons rx rr =>
    cases rr with
    | cons rt rr =>
      cases rr
      cases rx
      cases rt
      obtain ⟨hget, _⟩ := I.pin (a, oe) (List.mem_append.mpr (.inl List.mem_cons_self))
      obtain ⟨vs, hv⟩ := hf
      have hx : ObjOk X.prog X.w H s.heap dd (.xd fs) := I.hok dd _ hdd
      obtain ⟨mA, hns, hr⟩ := hx
      obtain ⟨od, ho, hl⟩ := lookIn_ns hns
      have J : PySem.W.InstAt s.heap a oe D (some od) := ⟨hget, hz.1, by unfold PySem.W.notCls; rw [hv] <;> rfl, by rw [hz.2]; exact ho⟩
      exact PySem.W.kia_one (kitx_exc C.hg C.hk C.hs C.hd C.ha C.hn C.ht C.hm) I.kIn J e (fun z => nomatch z) fun tk => ⟨.bl b, H, I.kept (t' := tk) fun _ _ z => z, rfl, q⟩
section
variable {X : Cx} {CX : CXT} {k : Nat} {f C : Addr} {fd : FuncData} {ps : List Str} {sp : Sp} {E : L2.St → XK} {x m : Str} {p pos apos : Pos} {e o : Expr} {es : List Expr} {ta : TE} {t : TA}
def tMethX (C : Addr) (m : Str) (sp : Sp) (E : L2.St → XK) (ta : TE) (t : TA) : TE := fun σ H Q => ta σ H fun x H1 => ∃ (a dx : Addr) (fs : List (Str × V)), x = .ref a ∧ H1 a = some (.ins C dx fs) ∧ fs.lookup m = none ∧ t σ H1 fun vs H2 => sp (x :: vs) H2 Q (E σ)
/-- o.m(e, ..) that may raise, within a try -/
theorem pe_methX {pl : Sem Bool} (he : PE X o ta) (c : Cls X.K C) (hm : Meth X.K C m f) (F : FnOk X.prog X.w X.K X.mg X.base CX k f fd ps sp) (hr : Room k X.A) (hb : Binds X.K fd ps []) (hx : ∀ σ, PassesAt CX X σ (E σ)) (ha : PA X (e :: es) t)
    (hst : starEach (e :: es) X.env = (false, eval e X.env) :: starEach es X.env := by rfl) (hpl : (backTo pos (starEach es X.env)).any (·.1) = false := by rfl)
    (ht : eval (.Call (.Attribute o m apos) (e :: es) [] pos) X.env = (do
      let ov ← eval o X.env
      standAt apos.atName
      let (f, first) ← holding [ov] (getMethod ov m pl)
      callWith pos f first (backTo pos (starEach (e :: es) X.env)) (backToKw pos (keywordEach [] X.env))) := by rfl) :
    PE X (.Call (.Attribute o m apos) (e :: es) [] pos) (tMethX C m sp E ta t) := by
  refine ⟨fun pins s σ H Q I h => ?_⟩
  refine PySem.W.methodCall_KW (pl := pl) (thn (he.run pins s σ H _ I h) fun u s1 ⟨x, H1, I1, rx, a, dx, fs, ex, ea, l, q⟩ => ?_) ht
  subst ex
  obtain rfl : u = Value.ref a := rx
  refine getmeth_ok I1 ea c hm l ?_
  refine PySem.W.callWith_K (first := [.ref a]) (h₀ := X.base) I.ok.mod.kin hm.kp (thn (ha.run pos pins s1 σ H1 _ I1 q) fun us s2 ⟨vs, H2, I2, r, q2⟩ => ⟨I2.kIn, ?_⟩) hst hpl
  exact run_fnS (us := .ref a :: us) (vs := .ref a :: vs) F hr hb (hx σ) I2 (.cons rfl r) q2
/-- o.m() that may raise, within a try -/
theorem pe_methX0 {pl : Sem Bool} (he : PE X o ta) (c : Cls X.K C) (hm : Meth X.K C m f) (F : FnOk X.prog X.w X.K X.mg X.base CX k f fd ps sp) (hr : Room k X.A) (hb : Binds X.K fd ps []) (hx : ∀ σ, PassesAt CX X σ (E σ))
    (ht : eval (.Call (.Attribute o m apos) [] [] pos) X.env = (do
      let ov ← eval o X.env
      standAt apos.atName
      let (f, first) ← holding [ov] (getMethod ov m pl)
      callWith pos f first (backTo pos (starEach [] X.env)) (backToKw pos (keywordEach [] X.env))) := by rfl) :
    PE X (.Call (.Attribute o m apos) [] [] pos) (tMethX C m sp E ta tNil) := by
  refine ⟨fun pins s σ H Q I h => ?_⟩
  refine PySem.W.methodCall_KW (pl := pl) (thn (he.run pins s σ H _ I h) fun u s1 ⟨x, H1, I1, rx, a, dx, fs, ex, ea, l, q⟩ => ?_) ht
  subst ex
  obtain rfl : u = Value.ref a := rx
  refine getmeth_ok I1 ea c hm l ?_
  exact PySem.W.callWith_K0 (first := [.ref a]) I1.kIn hm.kp (run_fnS (us := [.ref a]) (vs := [.ref a]) F hr hb (hx σ) I1 (.cons rfl .nil) q)
end
end HA
/-! displays of data in one step: sums of tuples, slices, items; data with new lists in it -/
namespace HR
open PySem PySem.Spec PyProof.Rows L2 HB HX HD HK HM
def cutG {α : Type} (xs : List α) (lo hi : Option Int) : List α := (xs.drop (HT.sIx xs.length 0 lo)).take (HT.sIx xs.length xs.length hi - HT.sIx xs.length 0 lo)
section
variable {K : PySem.W.Frag} {A : Addr → Prop} {σ : L2.St} {H0 : Hp}
theorem dpAll_drop {H : Hp} : ∀ {n : Nat} {vs : List V} {xs : List PyData}, DpAll K H vs xs → DpAll K H (vs.drop n) (xs.drop n)
  | 0, _, _, h => h
  | n + 1, _, _, .nil => .nil
  | n + 1, _ :: _, _ :: _, .cons _ b => dpAll_drop (n := n) b
theorem dpAll_tk {H : Hp} : ∀ {n : Nat} {vs : List V} {xs : List PyData}, DpAll K H vs xs → DpAll K H (vs.take n) (xs.take n)
  | 0, _, _, _ => .nil
  | n + 1, _, _, .nil => .nil
  | n + 1, _, _, .cons a b => .cons a (dpAll_tk b)
theorem dpAll_cut {H : Hp} {vs : List V} {xs : List PyData} (h : DpAll K H vs xs) (lo hi : Option Int) : DpAll K H (cutV vs lo hi) (cutG xs lo hi) := by
  have e := dpAll_len h
  unfold cutV cutG
  rw [e]
  exact dpAll_tk (dpAll_drop h)
def MkP (σ : L2.St) (H0 : Hp) (tl : TO) (o : Option Int) : Prop := ∀ (H : Hp) (Q : Option Int → Hp → Prop), Same H0 H → (∀ H', Same H H' → Q o H') → tl σ H Q
theorem mkp_none : MkP σ H0 tNoPart none := fun H Q _ q => q H (Same.refl H)
theorem mkp_some {t : TE} {i : Int} (h : MkE K σ H0 t (.int i)) : MkP σ H0 (tPart t) (some i) := fun H Q s q => h H _ s fun v H' s' d => by
  cases d
  exact ⟨i, rfl, q H' s'⟩
theorem mk_cat {t u : TE} {ds es : List PyData} (h1 : MkE K σ H0 t (.tuple ds)) (h2 : MkE K σ H0 u (.tuple es)) (l : ds.length + es.length ≤ sizeLine) : MkE K σ H0 (tOp (HT2.rCatA K) t u) (.tuple (ds ++ es)) := fun H Q s q =>
  h1 H _ s fun v H1 s1 hv => h2 H1 _ (s.trans s1) fun w H2 s2 hw => by
    have hv2 := s2.dp hv
    obtain ⟨a, xs, rfl, _⟩ : ∃ (a : Addr) (xs : List V), v = .ref a ∧ SqT K H2 a xs := by
      cases hv2 with
      | tup h1 h2 => exact ⟨_, _, rfl, h1⟩
    obtain ⟨b, ys, rfl, _⟩ : ∃ (a : Addr) (xs : List V), w = .ref a ∧ SqT K H2 a xs := by
      cases hw with
      | tup h1 h2 => exact ⟨_, _, rfl, h1⟩
    exact cat_dp hv2 hw l fun p H3 s3 h3 => q _ H3 ((s1.trans s2).trans s3) h3
theorem mk_sl {t : TE} {tl th : TO} {ds : List PyData} {lo hi : Option Int} (h : MkE K σ H0 t (.tuple ds)) (hl : MkP σ H0 tl lo) (hh : MkP σ H0 th hi) : MkE K σ H0 (tSl (HT2.rSlA K) t tl th) (.tuple (cutG ds lo hi)) := fun H Q s q =>
  h H _ s fun v H1 s1 hv => hl H1 _ (s.trans s1) fun H2 s2 => hh H2 _ ((s.trans s1).trans s2) fun H3 s3 => by
    have hv3 := (s2.trans s3).dp hv
    have s03 := (s1.trans s2).trans s3
    cases hv3 with
    | @tup a xs _ h1 h2 =>
      refine ⟨_, _, rfl, h1, fun e => ?_, fun _ p np => ?_⟩
      · refine q _ H3 s03 (.tup h1 ?_)
        have : cutG ds lo hi = ds := by
          unfold cutG
          rw [← dpAll_len h2, e.1, e.2, dpAll_len h2]
          simp
        rw [this]
        exact h2
      · have sp := same_upd (o := .tup (cutV xs lo hi)) np
        exact q _ _ (s03.trans sp) (.tup (stt upd_same) (sp.dpAll (dpAll_cut h2 lo hi)))
theorem mk_add {t u : TE} {i j : Int} (h1 : MkE K σ H0 t (.int i)) (h2 : MkE K σ H0 u (.int j)) : MkE K σ H0 (tOp (rI0 fun i j => .int (i + j)) t u) (.int (i + j)) := fun H Q s q =>
  h1 H _ s fun v H1 s1 hv => h2 H1 _ (s.trans s1) fun w H2 s2 hw => by
    cases hv
    cases hw
    exact ⟨i, j, rfl, rfl, q _ H2 (s1.trans s2) (.int _)⟩
theorem mk_sub {t u : TE} {i j : Int} (h1 : MkE K σ H0 t (.int i)) (h2 : MkE K σ H0 u (.int j)) : MkE K σ H0 (tOp (rI0 fun i j => .int (i - j)) t u) (.int (i - j)) := fun H Q s q =>
  h1 H _ s fun v H1 s1 hv => h2 H1 _ (s.trans s1) fun w H2 s2 hw => by
    cases hv
    cases hw
    exact ⟨i, j, rfl, rfl, q _ H2 (s1.trans s2) (.int _)⟩
theorem mk_neg {t : TE} {i : Int} (h1 : MkE K σ H0 t (.int i)) : MkE K σ H0 (tUn (rU fun i => .int (-i)) t) (.int (-i)) := fun H Q s q =>
  h1 H _ s fun v H1 s1 hv => by
    cases hv
    exact ⟨i, rfl, q _ H1 s1 (.int _)⟩
theorem mk_pow {t u : TE} {i j : Int} (h1 : MkE K σ H0 t (.int i)) (h2 : MkE K σ H0 u (.int j)) (c : CPow i j) : MkE K σ H0 (tOp (rI CPow fun i j => .int (i ^ j.toNat)) t u) (.int (i ^ j.toNat)) := fun H Q s q =>
  h1 H _ s fun v H1 s1 hv => h2 H1 _ (s.trans s1) fun w H2 s2 hw => by
    cases hv
    cases hw
    exact ⟨i, j, rfl, rfl, c, q _ H2 (s1.trans s2) (.int _)⟩
theorem mk_ixT {t u : TE} {ds : List PyData} {k : Nat} {d : PyData} (h1 : MkE K σ H0 t (.tuple ds)) (h2 : MkE K σ H0 u (.int (k : Int))) (e : ds[k]? = some d) : MkE K σ H0 (tOp (rIxT K) t u) d := fun H Q s q =>
  h1 H _ s fun v H1 s1 hv => h2 H1 _ (s.trans s1) fun w H2 s2 hw => by
    have hv2 := s2.dp hv
    cases hw
    cases hv2 with
    | tup h3 h4 =>
      obtain ⟨x, ex, hx⟩ := dp_at h4 e
      exact ⟨_, _, _, x, rfl, rfl, h3, atI_nat ex, q _ H2 (s1.trans s2) hx⟩
theorem MkE.run {t : TE} {d : PyData} {Q : VK} (h : MkE K σ H0 t d) (q : ∀ v H', Same H0 H' → Dp K H' v d → Q v H') : t σ H0 Q := h H0 Q (Same.refl H0) q
/-! ### with new lists and empty dicts -/
def MkX (K : PySem.W.Frag) (A : Addr → Prop) (σ : L2.St) (H0 : Hp) (t : TE) (d : PyData) : Prop := ∀ (H : Hp) (Q : VK), Same H0 H → (∀ v H', Same H H' → Dx K A H' v d → Q v H') → t σ H Q
def MkXA (K : PySem.W.Frag) (A : Addr → Prop) (σ : L2.St) (H0 : Hp) (t : TA) (ds : List PyData) : Prop := ∀ (H : Hp) (Q : List V → Hp → Prop), Same H0 H → (∀ vs H', Same H H' → DxAll K A H' vs ds → Q vs H') → t σ H Q
theorem mx_of {t : TE} {d : PyData} (ht : tupD d = true) (h : MkE K σ H0 t d) : MkX K A σ H0 t d := fun H Q s q => h H Q s fun v H' s' hd => q v H' s' (Dx.of ht hd)
theorem mx_var {i : Nat} {v : V} {d : PyData} (h : σ[i]? = some (some v)) (hd : Dx K A H0 v d) : MkX K A σ H0 (tVar i) d := fun H Q s q => ⟨v, h, q _ H (Same.refl H) (hd.same s)⟩
theorem mxa_nil : MkXA K A σ H0 tNil [] := fun H Q _ q => q [] H (Same.refl H) .nil
theorem mxa_cons {t : TE} {ta : TA} {d : PyData} {ds : List PyData} (h : MkX K A σ H0 t d) (ha : MkXA K A σ H0 ta ds) : MkXA K A σ H0 (tCons t ta) (d :: ds) := fun H Q s q =>
  h H _ s fun v H1 s1 hv => ha H1 _ (s.trans s1) fun vs H2 s2 hvs => q (v :: vs) H2 (s1.trans s2) (.cons (hv.same s2) hvs)
theorem mx_lst {ta : TA} {ds : List PyData} (hA : ∀ H a, Same H0 H → H a = none → A a) (h : MkXA K A σ H0 ta ds) (hz : ds.length ≤ 1000 := by simp) : MkX K A σ H0 (tLst ta) (.list ds) := fun H Q s q =>
  h H _ s fun vs H1 s1 hvs => ⟨by rw [dxAll_len hvs]; exact Nat.le_of_lt (small1000 hz), fun p np => q (.ref p) _ (s1.trans (same_upd np)) (.lst (hA _ _ (s.trans s1) np) upd_same (hvs.same (same_upd np)))⟩
theorem mx_tup {ta : TA} {ds : List PyData} (h : MkXA K A σ H0 ta ds) (hz : ds.length ≤ 1000 := by simp) : MkX K A σ H0 (tTup ta) (.tuple ds) := fun H Q s q =>
  h H _ s fun vs H1 s1 hvs => ⟨by rw [dxAll_len hvs]; exact Nat.le_of_lt (small1000 hz), fun p np => q (.ref p) _ (s1.trans (same_upd np)) (.tup (stt upd_same) (hvs.same (same_upd np)))⟩
theorem MkX.run {t : TE} {d : PyData} {Q : VK} (h : MkX K A σ H0 t d) (q : ∀ v H', Same H0 H' → Dx K A H' v d → Q v H') : t σ H0 Q := h H0 Q (Same.refl H0) q
/-- a new list of such data -/
theorem runX_lst {ta : TA} {ds : List PyData} {Q : VK} (h : MkXA K A σ H0 ta ds) (q : ∀ p H' vs, H0 p = none → Same H0 H' → H' p = some (.lst vs) → DxAll K A H' vs ds → Q (.ref p) H') (hz : ds.length ≤ 1000 := by simp) : tLst ta σ H0 Q :=
  h H0 _ (Same.refl H0) fun vs H1 s1 hvs => ⟨by rw [dxAll_len hvs]; exact Nat.le_of_lt (small1000 hz), fun p np => q p _ vs (s1.free np) (s1.trans (same_upd np)) upd_same (hvs.same (same_upd np))⟩
/-- a new list of such data: its place is apart from what is in it -/
theorem runX_lst1 {ta : TA} {ds : List PyData} {Q : VK} (h : MkXA K A σ H0 ta ds) (q : ∀ p H1 vs, Same H0 H1 → H1 p = none → DxAll K A H1 vs ds → Q (.ref p) (upd H1 p (.lst vs))) (hz : ds.length ≤ 1000 := by simp) : tLst ta σ H0 Q :=
  h H0 _ (Same.refl H0) fun vs H1 s1 hvs => ⟨by rw [dxAll_len hvs]; exact Nat.le_of_lt (small1000 hz), fun p np => q p H1 vs s1 np hvs⟩
theorem dx_at {H : Hp} : ∀ {xs : List V} {ds : List PyData}, DxAll K A H xs ds → ∀ {i : Nat} {d : PyData}, ds[i]? = some d → ∃ v, xs[i]? = some v ∧ Dx K A H v d
  | _, _, .cons h _, 0, _, e => ⟨_, rfl, by cases e; exact h⟩
  | _, _, .cons _ t, i + 1, _, e => dx_at t (by simpa using e)
  | _, _, .nil, i, _, e => by simp at e
theorem dxAll_app {H : Hp} : ∀ {xs ys : List V} {ds es : List PyData}, DxAll K A H xs ds → DxAll K A H ys es → DxAll K A H (xs ++ ys) (ds ++ es)
  | _, _, _, _, .nil, k => k
  | _, _, _, _, .cons h t, k => .cons h (dxAll_app t k)
end
end HR
/-! x in y: y a list, a tuple, or a dict -/
namespace HO
open PySem PySem.Spec PyProof.Rows L2
section
variable {X : Cx}
def rInAny (K : PySem.W.Frag) : R2 := fun x y H Q => rIn K false x y H Q ∨ ∃ (a : Addr) (o : Option V), y = .ref a ∧ DGet H a x o ∧ Q (.bl o.isSome) H
theorem op_inAny (hu : X.A.units + 1 < cLine) : OpR X (compareOp .In) (rInAny X.K) := by
  intro pins s σ H x y v u Q I rx ry h
  rcases h with h | ⟨a, o, rfl, g, q⟩
  · exact op_in_seq pins s σ H x y v u Q I rx ry h
  · cases ry
    exact d_in hu I g rx fun s' I' => ⟨.bl _, H, I', rfl, q⟩
end
end HO
/-! ==, != and len of an instance whose class says how -/
namespace HC
open PySem
section
open Sem (wp)
open Builtin
variable {prog : Program} {w : World} {A : Around} {E : Value → Shared → Prop} {s : Shared} {K : PySem.W.Frag} {x C f : Addr} {ox : Obj} {od : Option Obj}
theorem len_ownK {h : Heap} {g : Array GenState} {d : Drawn} {t : Nat} {os : OsState} {Q : Value → Shared → Prop}
    (hcall : wpAny (model prog w) A.in1 (callSpecial? (.ref x) "__len__") (fun r s' => ∃ n u, r = some (.int n u) ∧ 0 ≤ n ∧ n < 2 ^ 63 ∧ Q (.int n s'.toks) { s' with toks := s'.toks + 1 }) E ⟨h, g, d, t, os⟩) :
    wpAny (model prog w) A (call (.builtin "len") [.ref x]) Q E ⟨h, g, d, t, os⟩ := by
  refine Calls.call_function_entry kind_len plain_len entry_len (args_len1 _) ?_
  unfold Builtin.«len»
  refine wpAny_bind (m := oneArg "len" _) (wpAny_pure ?_)
  refine wpAny_bind (m := callSpecial? (.ref x) (Str.ofString "__len__")) (wpAny_mono hcall (fun r s' hr => ?_) fun _ _ y => y)
  obtain ⟨n, u, rfl, h0, h1, hq⟩ := hr
  refine wpAny_bind (wpAny_holding (wpAny_pure ?_))
  refine wpAny_bind (wpAny_letGo ?_)
  show wpAny _ _ (if n < 0 then _ else _) _ _ _
  rw [if_neg (by omega)]
  show wpAny _ _ (if n ≥ 2 ^ 63 then _ else _) _ _ _
  rw [if_neg (by omega)]
  exact wpAny_bind (wpAny_mkInt (wpAny_pure ⟨_, rfl, hq⟩))
theorem ifBound_objNe {M : Model} {args : List Value} {Q : Option Value → Shared → Prop} (X : K.In s.heap) (I : PySem.W.InstAt s.heap x ox C od) (hs : PySem.W.findIn K (.ref C) "__ne__" = some (some (.builtin "object.__ne__")))
    (h : wpAny M A (call (.builtin "object.__ne__") (.ref x :: args)) (fun v => Q (some v)) E s) : wpAny M A (callSpecialIfBound? (.ref x) "__ne__" args) Q E s := by
  simp only [callSpecialIfBound?, bindSpecialIfBound?]
  refine wpAny_holding (wpAny_bind (wpAny_bind (wpAny_bind (I.type.here ((PySem.W.looks_findIn X hs).here ?_)))))
  refine wpAny_bind (wpAny_askSetting (wpAny_ite ?_))
  have fin : wpAny M A (call (.builtin "object.__ne__") ([.ref x] ++ args) >>= fun v => pure (some v)) Q E s := wpAny_bind (wpAny_mono h (fun v s' h' => wpAny_pure h') fun _ _ h' => h')
  split
  · exact wpAny_bind (wpAny_of_eq (F.cmp_object.ne.bind _) (wpAny_pure (by exact fin)))
  · exact wpAny_tryCatch (wpAny_bind (wpAny_of_eq (F.cmp_object.ne.bind _) (wpAny_pure (by exact fin))))
theorem objNe_entryK {b : Value} (hu : A.units < cLine) (X : K.In s.heap) (I : PySem.W.InstAt s.heap x ox C od) (hs : PySem.W.findIn K (.ref C) "__eq__" = some (some (.ref f))) (hf : PySem.W.isFn K (.ref f) = true) {Q : Fin → Shared → Prop}
    (hcall : wpAny (model prog w) A (call (.ref f) [.ref x, b]) (fun v s' => ∃ b, v = .bool b ∧ Q (.done (.ret (.bool (!b)))) s') E s) :
    wpAny (model prog w) A (Builtin.«object.__ne__» ⟨[.ref x, b], []⟩) Q E s := by
  unfold Builtin.«object.__ne__»
  repeat (first
    | with_reducible refine wpAny_cRoomFor hu ?_
    | (refine wpAny_bind (m := callSpecialIfBound? (.ref x) (Str.ofString "__eq__") [b])
        (PySem.W.ifBound_K X I hs hf (wpAny_mono hcall (fun r s' hr => by
          obtain ⟨b, rfl, hq⟩ := hr
          repeat (first | exact hq | exact wpAny_pure hq | exact wpAny_truthy_bool hq | (refine wpAny_bind (m := truthy (.bool _)) (wpAny_truthy_bool ?_)) | wp_step)) fun _ _ e => e)))
    | wp_step)
theorem ne_K {b tb : Value} {Q : Value → Shared → Prop} (hu : A.units + 1 < cLine) (X : K.In s.heap) (I : PySem.W.InstAt s.heap x ox C od) (hb : PySem.W.Looks (model prog w) s.heap (typeOf b) tb) (hn : PySem.W.notFirst K C tb = true)
    (hm : PySem.W.mroIn K C (.type "object") = some true) (hne : PySem.W.findIn K (.ref C) "__ne__" = some (some (.builtin "object.__ne__")))
    (hs : PySem.W.findIn K (.ref C) "__eq__" = some (some (.ref f))) (hf : PySem.W.isFn K (.ref f) = true)
    (h : wpAny (model prog w) A.in1 (call (.ref f) [.ref x, b]) (fun v s' => ∃ r, v = .bool r ∧ Q (.bool (!r)) s') E s) : wpAny (model prog w) A (richCompare .NotEq (.ref x) b) Q E s := by
  have one : wpAny (model prog w) A (tryCompare (.ref x) "__ne__" b) (fun r s' => ∃ v, r = some v ∧ Q v s') E s := by
    unfold tryCompare
    refine wpAny_bind (ifBound_objNe X I hne (wpAny_call (codeAny_call_builtin F.cmp_object.ne.plain F.cmpEntry_ne (PySem.W.check_slot F.cmpKind_ne F.cmpSplit_ne (I.type.andThen (PySem.W.looks_mroIn X hm)) (F.cmpArgs_ne _ _)
      (objNe_entryK (A := A.in1) (by show A.units + 1 < cLine; exact hu) X I hs hf (wpAny_mono h (fun v s' hv => ?_) fun _ _ e => e))))))
    obtain ⟨r, rfl, hq⟩ := hv
    first | exact ⟨r, rfl, wpAny_pure ⟨_, rfl, hq⟩⟩ | exact ⟨r, rfl, wpAny_pure (wpAny_pure ⟨_, rfl, hq⟩)⟩ | exact ⟨r, rfl, ⟨_, rfl, hq⟩⟩
  unfold richCompare
  simp only [oneThing_ref]
  refine wpAny_holding (wpAny_bind (wpAny_cRoomFor (by omega) ?_))
  refine wpAny_bind (I.type.here (wpAny_bind (hb.here ?_)))
  split
  · rename_i q
    have e : PySem.W.subIn K tb (.ref C) = some false := by
      rcases Bool.or_eq_true_iff.mp hn with e | e
      · rw [beq_iff_eq.mp e] at q; simp at q
      · exact beq_iff_eq.mp e
    refine wpAny_bind ((PySem.W.looks_subIn X e).here ?_)
    simp only [Bool.false_eq_true, if_false]
    refine wpAny_bind (wpAny_mono one (fun r s' z => ?_) fun _ _ e => e)
    obtain ⟨v, rfl, hq⟩ := z
    exact wpAny_pure hq
  · refine wpAny_bind (wpAny_pure ?_)
    simp only [Bool.false_eq_true, if_false]
    refine wpAny_bind (wpAny_mono one (fun r s' z => ?_) fun _ _ e => e)
    obtain ⟨v, rfl, hq⟩ := z
    exact wpAny_pure hq
theorem sub_tuple : PySem.W.subIn K (.type "tuple") (.ref C) = some false := by
  have e : fastBuiltinMro "tuple" = some [.type "tuple", .type "object"] := by decide +kernel
  show (fastBuiltinMro "tuple").map (·.contains (.ref C)) = some false
  rw [e]
  first
    | rfl
    | simp
end
section
open PySem.Spec PyProof.Rows L2
variable {X : Cx} {CX : CXT} {k : Nat} {f C : Addr} {fd : FuncData} {ps : List Str} {sp : Sp} {E : XK}
/-- len(x) of an instance whose class says how -/
def rLenO (C : Addr) (sp : Sp) (E : XK) : List V → Hp → VK → Prop := fun xs H Q => ∃ (a dx : Addr) (fs : List (Str × V)), xs = [.ref a] ∧ H a = some (.ins C dx fs) ∧ sp [.ref a] H (fun v H' => ∃ n : Nat, v = .int n ∧ n ≤ sizeLine ∧ Q v H') E
theorem call_lenO (hm : Meth X.K C "__len__" f) (F : FnOk X.prog X.w X.K X.mg X.base CX k f fd ps sp) (hr : Room (k + 1) X.A) (hb : Binds X.K fd ps []) (hx : Passes CX X E) : CallR X (.builtin "len") (rLenO C sp E) := by
  intro pins s σ H xs us Q I r h
  obtain ⟨a, dx, fs, rfl, e, q⟩ := h
  obtain ⟨u, rfl, ru⟩ := vals1 r
  obtain rfl : u = Value.ref a := ru
  refine len_ownK ?_
  obtain ⟨mA, O, _⟩ := ins_get I.hok e
  obtain ⟨od, J, _⟩ := O.look
  refine PySem.W.special_fn I.kIn J hm.at_ (beq_iff_eq.mp hm.fn) ?_
  have hl : ([Value.ref a] ++ []).length = ps.length := by
    have := F.len _ _ _ _ q
    exact this
  refine wpAny_call (codeAny_mono (F.run X.A.in1 X.stack s H ⟨[.ref a], []⟩ [.ref a] [.ref a] _ E hr.in1 I.env0.in1 (hb s [.ref a] I.kIn hl) (.cons rfl .nil) q) fun r s' hq => ?_)
  cases r with
  | error e => exact hx pins σ H s e s' I hq
  | ok fl =>
    cases fl with
    | ret u =>
      obtain ⟨v, H', I3, rv, n, ev, hn, q3⟩ := I.after hq
      subst ev
      obtain ⟨t, rfl⟩ := rv
      exact ⟨n, t, rfl, by omega, by have : sizeLine = 2 ^ 24 := rfl; omega, .int n, H', I3.tok _, ⟨_, rfl⟩, q3⟩
    | next => exact False.elim hq
    | brk => exact False.elim hq
    | cont => exact False.elim hq
/-- x == y, x != y of an instance whose class says how, the other one an instance of it or a tuple -/
def rCmpO (K : PySem.W.Frag) (C : Addr) (sp : Sp) (E : XK) (g : Bool → Bool) : R2 := fun x y H Q => ∃ (a dx b : Addr) (fs : List (Str × V)), x = .ref a ∧ H a = some (.ins C dx fs) ∧ y = .ref b ∧ ((∃ dy gs, H b = some (.ins C dy gs)) ∨ ∃ ys, SqT K H b ys) ∧
  sp [.ref a, .ref b] H (fun v H' => ∃ r : Bool, v = .bl r ∧ Q (.bl (g r)) H') E
theorem other_type {pins : List (Addr × Obj)} {σ : L2.St} {H : Hp} {s : Shared} {b : Addr} (I : Inv X pins σ H s) (h : (∃ dy gs, H b = some (.ins C dy gs)) ∨ ∃ ys, SqT X.K H b ys) : ∃ tb, PySem.W.Looks (model X.prog X.w) s.heap (typeOf (.ref b)) tb ∧ PySem.W.notFirst X.K C tb = true := by
  rcases h with ⟨dy, gs, h⟩ | ⟨ys, h⟩
  · obtain ⟨mB, J', _⟩ := ins_get I.hok h
    obtain ⟨od', J', _⟩ := J'.look
    exact ⟨_, J'.type, by simp [PySem.W.notFirst]⟩
  · obtain ⟨its, r, ⟨o, ho, hc, n, hd⟩, z⟩ := I.tuple h
    refine ⟨.type "tuple", (PySem.W.Looks.ld ho).andThen (by rw [hc]; exact .now), ?_⟩
    show (Value.type "tuple" == Value.ref C || PySem.W.subIn X.K (.type "tuple") (.ref C) == some false) = true
    rw [sub_tuple]
    simp
theorem op_eqO (hm : Meth X.K C "__eq__" f) (F : FnOk X.prog X.w X.K X.mg X.base CX k f fd ps sp) (hr : Room k X.A) (hb : Binds X.K fd ps []) (hx : Passes CX X E) : OpR X (compareOp .Eq) (rCmpO X.K C sp E id) := by
  intro pins s σ H x y v u Q I rx ry h
  obtain ⟨a, dx, b, fs, rfl, e, rfl, ho, q⟩ := h
  cases rx
  cases ry
  obtain ⟨mA, O, _⟩ := ins_get I.hok e
  obtain ⟨od, J, _⟩ := O.look
  obtain ⟨tb, l1, l2⟩ := other_type I ho
  obtain ⟨m, hF⟩ := I.fr
  show wpAny (model X.prog X.w) X.A (richCompare .Eq (.ref a) (.ref b)) (EP X pins σ Q) X.xe s
  refine PySem.W.cmp_K (op := .Eq) hr.units0 hF I.ok.mod.kin J l1 l2 hm.at_ hm.fn ?_
  have hl := F.len _ _ _ _ q
  refine wpAny_call (codeAny_mono (F.run X.A X.stack s H ⟨[.ref a, .ref b], []⟩ [.ref a, .ref b] [.ref a, .ref b] _ E hr I.env0 (by
    have := hb s [.ref a, .ref b] I.kIn (by simpa using hl)
    simpa using this) (.cons rfl (.cons rfl .nil)) q) fun r s' hq => ?_)
  cases r with
  | error e => exact hx pins σ H s e s' I hq
  | ok fl =>
    cases fl with
    | ret w =>
      obtain ⟨z, H', I', rz, t, ez, q3⟩ := I.after hq
      subst ez
      cases rz
      exact ⟨.bl t, H', I', rfl, q3⟩
    | next => exact False.elim hq
    | brk => exact False.elim hq
    | cont => exact False.elim hq
theorem op_neO (hm : Meth X.K C "__eq__" f) (ho : PySem.W.mroIn X.K C (.type "object") = some true) (hne : PySem.W.findIn X.K (.ref C) "__ne__" = some (some (.builtin "object.__ne__"))) (F : FnOk X.prog X.w X.K X.mg X.base CX k f fd ps sp) (hr : Room (k + 1) X.A) (hb : Binds X.K fd ps []) (hx : Passes CX X E) : OpR X (compareOp .NotEq) (rCmpO X.K C sp E not) := by
  intro pins s σ H x y v u Q I rx ry h
  obtain ⟨a, dx, b, fs, rfl, e, rfl, hy, q⟩ := h
  cases rx
  cases ry
  obtain ⟨mA, O, _⟩ := ins_get I.hok e
  obtain ⟨od, J, _⟩ := O.look
  obtain ⟨tb, l1, l2⟩ := other_type I hy
  show wpAny (model X.prog X.w) X.A (richCompare .NotEq (.ref a) (.ref b)) (EP X pins σ Q) X.xe s
  refine ne_K (by have := hr.units0; have := hr.in1.units0; exact this) I.kIn J l1 l2 ho hne hm.at_ hm.fn ?_
  have hl := F.len _ _ _ _ q
  refine wpAny_call (codeAny_mono (F.run X.A.in1 X.stack s H ⟨[.ref a, .ref b], []⟩ [.ref a, .ref b] [.ref a, .ref b] _ E hr.in1 I.env0.in1 (by
    have := hb s [.ref a, .ref b] I.kIn (by simpa using hl)
    simpa using this) (.cons rfl (.cons rfl .nil)) q) fun r s' hq => ?_)
  cases r with
  | error e => exact hx pins σ H s e s' I hq
  | ok fl =>
    cases fl with
    | ret w =>
      obtain ⟨z, H', I', rz, t, ez, q3⟩ := I.after hq
      subst ez
      cases rz
      exact ⟨t, rfl, .bl (!t), H', I', rfl, q3⟩
    | next => exact False.elim hq
    | brk => exact False.elim hq
    | cont => exact False.elim hq
/-- what the head tells of a class with its own == -/
structure OwnC (K : PySem.W.Frag) (C : Addr) : Prop where
  ob : PySem.W.mroIn K C (.type "object") = some true
  ne : PySem.W.findIn K (.ref C) "__ne__" = some (some (.builtin "object.__ne__"))
  ha : PySem.W.findIn K (.ref C) "__class__" = some (some (.builtin "object.__class__"))
  hn : PySem.W.specialIn K (.builtin "object.__class__") "__get__" = some (some (.builtin "getset_descriptor.__get__"))
  tk : PySem.W.takesIn K (.builtin "object.__class__") = some true
  tup : PySem.W.kitOne K (.type "tuple") (.ref C) = some false
def neB (K : PySem.W.Frag) (C : Addr) : Bool := decide (PySem.W.mroIn K C (.type "object") = some true) && (decide (PySem.W.findIn K (.ref C) "__ne__" = some (some (.builtin "object.__ne__"))) &&
  (decide (PySem.W.findIn K (.ref C) "__class__" = some (some (.builtin "object.__class__"))) && (decide (PySem.W.specialIn K (.builtin "object.__class__") "__get__" = some (some (.builtin "getset_descriptor.__get__"))) &&
  (decide (PySem.W.takesIn K (.builtin "object.__class__") = some true) && decide (PySem.W.kitOne K (.type "tuple") (.ref C) = some false)))))
theorem neB_ok {K : PySem.W.Frag} {C : Addr} (h : neB K C = true) : OwnC K C := by
  unfold neB at h
  simp only [Bool.and_eq_true, decide_eq_true_eq] at h
  obtain ⟨h1, h2, h3, h4, h5, h6⟩ := h
  exact ⟨h1, h2, h3, h4, h5, h6⟩
end
end HC
/-! == and != of tuples that hold data and dicts -/
namespace HF
open PySem PySem.SeqAt
section
open AutoSeq1 (wpAny_loadPart')
open MeetsSeq MeetsSeq2 MeetsSeq3 SeqRoads2
variable {prog : Program} {w : World}
/-- != of two tuples of one length, all alike -/
theorem tupNe_alike (l b : Addr) (xs ys : Array Value) (n n2 : Nat) (dd dd2 : Option Addr) (sl sl2 : Array (Option Value)) (hsz : xs.size = ys.size) :
    MeetsIn prog w (Builtin.«tuple.__ne__» ⟨[.ref l, .ref b], []⟩)
      (fun A R s => s.heap.get? l = some { cls := .type "tuple", dict := dd, data := .seq xs n, slots := sl } ∧ s.heap.get? b = some { cls := .type "tuple", dict := dd2, data := .seq ys n2, slots := sl2 } ∧
        (∀ j (h1 : j < xs.size) (h2 : j < ys.size), EqIn prog w A.in1 s xs[j] ys[j] true) ∧ R (.ok (.ret (.bool false))) s) :=
  .of_wp fun A R s h => by
    obtain ⟨hp, g, d, tk, os⟩ := s
    obtain ⟨hl, hb, he, h⟩ := h
    have f2 := AutoSeq1.sub_tuple_tuple
    have hZ : (xs.toList.zip ys.toList).length = xs.size := by simp [hsz]
    wp_walk using wpAny_loadPart' hl, wpAny_loadPart' hb, wpAny_forIn_list _ (fun rest b s' => b.1 = none ∧ s' = ⟨hp, g, d, tk, os⟩ ∧ ∃ i, rest = (xs.toList.zip ys.toList).drop i) _
    case turn =>
      rintro ⟨y, x⟩ rest b s' ⟨hb', rfl, i, hz⟩
      have hlt : i < (xs.toList.zip ys.toList).length := by
        rcases Nat.lt_or_ge i (xs.toList.zip ys.toList).length with h' | h'
        · exact h'
        · rw [List.drop_of_length_le h'] at hz; cases hz
      have h1 : i < xs.size := hZ ▸ hlt
      have h2 : i < ys.size := hsz ▸ h1
      rw [List.drop_eq_getElem_cons hlt] at hz
      injection hz with hyx hrest
      have hy : y = xs[i] := by have := congrArg Prod.fst hyx; simpa using this
      have hx : x = ys[i] := by have := congrArg Prod.snd hyx; simpa using this
      subst hy hx
      refine wpAny_bind (he i h1 h2 _ _ ?_)
      wp_walk
      exact ⟨rfl, rfl, i + 1, hrest⟩
    case fin =>
      rintro ⟨b1, b2⟩ s' ⟨hb', rfl, i, hz⟩
      simp only at hb'
      subst hb'
      wp_walk
      exact ⟨_, rfl, by simpa [Builtin.Tuple.tupleCompareSizes, bne, hsz] using h⟩
    case h =>
      exact ⟨rfl, rfl, 0, rfl⟩
theorem rcNe_alike {A : Around} {s : Shared} {E : Value → Shared → Prop} {l b : Addr} {xs ys : Array Value} {Q : Value → Shared → Prop} (hl : s.heap.IsTuple l xs) (hb : s.heap.IsTuple b ys) (hsz : xs.size = ys.size) (hu : A.units < cLine)
    (he : ∀ j (h1 : j < xs.size) (h2 : j < ys.size), EqIn prog w A.in1 s xs[j] ys[j] true) (h : Q (.bool false) s) : wpAny (model prog w) A (richCompare .NotEq (.ref l) (.ref b)) Q E s := by
  obtain ⟨⟨cls, dd, data, sl⟩, ho, hc, n, hd⟩ := id hl
  obtain ⟨⟨cls2, dd2, data2, sl2⟩, ho2, hc2, n2, hd2⟩ := id hb
  simp only at hc hd hc2 hd2
  subst hc hd hc2 hd2
  exact wpAny_richCompare_same_room (T := "tuple") (op := .NotEq) ⟨_, ho, rfl⟩ ⟨_, ho2, rfl⟩ PySem.F.slot_tuple_ne (call_meetsIn PySem.F.slot_tuple_ne ⟨_, ho, rfl⟩ PySem.F.entry_tuple_ne (PySem.F.args_tuple_ne_2 _ _) (tupNe_alike l b xs ys n n2 dd dd2 sl sl2 hsz)
    ⟨ho, ho2, he, show Value.bool false ≠ Value.notImplemented ∧ Q (.bool false) s from ⟨(fun x => nomatch x), h⟩⟩) hu
end
section
open PySem.Spec PyProof.Rows L2
variable {X : Cx}
theorem u70 {k : Nat} {A : Around} (r : Room k A) : A.units + 70 < cLine := by have := r.un; omega
def dictEq (ks ls : List (Key × V)) : Bool := ks.length == ls.length && ks.all fun p => match valV ls p.1 with
  | some y => eqV p.2 y
  | none => false
/-- data, or two dicts with flat values: alike or not -/
inductive CmpV (K : PySem.W.Frag) (H : Hp) : V → V → Bool → Prop
  | data {x y : V} {d e : PyData} : Dp K H x d → Dp K H y e → SeqAt.shaped d = true → SeqAt.shaped e = true → CmpV K H x y (PyData.eqv d e)
  | dict {a b : Addr} {ks ls : List (Key × V)} : a ≠ b → H a = some (.dK ks) → H b = some (.dK ls) → (∀ p ∈ ks, flatV p.2 = true) → (∀ p ∈ ls, flatV p.2 = true) → CmpV K H (.ref a) (.ref b) (dictEq ks ls)
theorem hits_any {prog : Program} {w : World} {A : Around} {s : Shared} {ls : List (Key × V)} {vb : List (Key × Value)} (rb : KV ls vb) (fl : ∀ p ∈ ls, flatV p.2 = true) : ∀ {ks : List (Key × V)} {va : List (Key × Value)}, KV ks va → (∀ p ∈ ks, flatV p.2 = true) →
    PySem.W.KeqHitsIn prog w A s vb va (ks.all fun p => match valV ls p.1 with
      | some y => eqV p.2 y
      | none => false) := by
  intro ks va ra
  unfold KV at ra
  induction ra with
  | nil => intro _; exact .nil
  | @cons p q ps qs h t ih =>
    intro hp
    obtain ⟨h1, h2⟩ := h
    obtain ⟨k, v⟩ := q
    have h1 : p.1 = k := h1
    have h2 : RelV p.2 v := h2
    have hv := rb.val k
    rw [List.all_cons, h1]
    cases e : valV ls k with
    | none =>
      rw [e] at hv
      have : valueAt vb k = none := by
        cases e2 : valueAt vb k with
        | none => rfl
        | some y => rw [e2] at hv; exact hv.elim
      rw [Bool.false_and]
      exact .miss this
    | some y =>
      rw [e] at hv
      obtain ⟨u, hu, ru⟩ := RelO.some_of hv
      have fy : flatV y = true := by
        obtain ⟨p', hp', e2⟩ := Option.map_eq_some_iff.mp e
        exact e2 ▸ fl p' (List.mem_of_find?_eq_some hp')
      exact .hit hu ((eqAt_V h2 ru (hp p (List.mem_cons_self ..)) fy).inModel prog w) (ih fun p' hm => hp p' (List.mem_cons_of_mem _ hm))
theorem CmpV.eqIn {pins : List (Addr × Obj)} {σ : L2.St} {H : Hp} {s : Shared} (I : Inv X pins σ H s) {x y : V} {u v : Value} {b : Bool} (h : CmpV X.K H x y b) (rx : RelV x u) (ry : RelV y v) {A : Around} (hu : A.units + 66 < cLine) : EqIn X.prog X.w A s u v b := by
  cases h with
  | data hd he sd se =>
    obtain ⟨as, r1⟩ := Dp.reads I _ _ _ hd rx
    obtain ⟨bs, r2⟩ := Dp.reads I _ _ _ he ry
    exact (SeqAt.EqAt.of_in1 (PySem.W.keq_at r1 r2 sd se (by show A.units + 1 + 64 < cLine; omega))).inModel _ _
  | @dict a b ks ls hne ha hb fk fl =>
    obtain rfl : u = Value.ref a := rx
    obtain rfl : v = Value.ref b := ry
    obtain ⟨_, ya, va, ra, da⟩ := (show ObjOk X.prog X.w H s.heap a (.dK ks) from I.hok a _ ha)
    obtain ⟨_, yb, vb, rb, db⟩ := (show ObjOk X.prog X.w H s.heap b (.dK ls) from I.hok b _ hb)
    refine SeqAt.EqIn.of_refs hne fun E Q hq => ?_
    have e : (va.length == vb.length) = (ks.length == ls.length) := by rw [ra.length, rb.length]
    exact PySem.W.keq_eqIn (knd := mixKind X.prog X.w) ya yb da db (by omega) (fun _ => hits_any rb fl ra fk) (by rw [e]; exact hq)
/-- == of two tuples of one length, item by item -/
def rEqM (K : PySem.W.Frag) : R2 := fun x y H Q => ∃ (a b : Addr) (xs ys : List V) (es : List Bool), x = .ref a ∧ y = .ref b ∧ SqT K H a xs ∧ SqT K H b ys ∧ xs.length = es.length ∧ ys.length = es.length ∧
  (∀ (j : Nat) x y e, xs[j]? = some x → ys[j]? = some y → es[j]? = some e → CmpV K H x y e) ∧ Q (.bl (es.all id)) H
theorem all_range (es : List Bool) : ((List.range es.length).all fun j => es.getD j true) = es.all id := by
  induction es with
  | nil => rfl
  | cons e es ih =>
    rw [List.length_cons, List.range_succ_eq_map, List.all_cons, List.all_map, List.all_cons, ← ih]
    rfl
theorem op_eqM (hu : X.A.units + 70 < cLine) : OpR X (compareOp .Eq) (rEqM X.K) := by
  intro pins s σ H x y v u Q I rx ry h
  obtain ⟨a, b, xs, ys, es, rfl, rfl, ha, hb, l1, l2, hc, q⟩ := h
  obtain rfl : v = Value.ref a := rx
  obtain rfl : u = Value.ref b := ry
  obtain ⟨its, r, e, z⟩ := I.tuple ha
  obtain ⟨its2, r2, e2, z2⟩ := I.tuple hb
  have n1 : its.toArray.size = es.length := by rw [List.size_toArray, ← r.length]; exact l1
  have n2 : its2.toArray.size = es.length := by rw [List.size_toArray, ← r2.length]; exact l2
  show wpAny (model X.prog X.w) X.A (richCompare .Eq (.ref a) (.ref b)) (EP X pins σ Q) X.xe s
  refine SeqAt.rcIn_tuples (e := fun j => es.getD j true) e e2 (by omega) (fun j h1 h2 => ?_) ?_
  · have k1 : j < xs.length := by omega
    have k2 : j < ys.length := by omega
    have k3 : j < es.length := by omega
    obtain ⟨u1, hu1, ru1⟩ := r.get (List.getElem?_eq_getElem k1)
    obtain ⟨v1, hv1, rv1⟩ := r2.get (List.getElem?_eq_getElem k2)
    have g1 : its.toArray[j] = u1 := by
      have h1' : j < its.length := by simpa using h1
      rw [List.getElem?_eq_getElem h1'] at hu1
      simpa using Option.some.inj hu1
    have g2 : its2.toArray[j] = v1 := by
      have h2' : j < its2.length := by simpa using h2
      rw [List.getElem?_eq_getElem h2'] at hv1
      simpa using Option.some.inj hv1
    rw [g1, g2]
    have e3 : es.getD j true = es[j] := by rw [List.getD_eq_getElem?_getD, List.getElem?_eq_getElem k3]; rfl
    show EqIn _ _ _ _ _ _ (es.getD j true)
    rw [e3]
    exact (hc j _ _ _ (List.getElem?_eq_getElem k1) (List.getElem?_eq_getElem k2) (List.getElem?_eq_getElem k3)).eqIn I ru1 rv1 (by show X.A.units + 1 + 66 < cLine; omega)
  · rw [n1, n2, Nat.min_self, all_range, beq_self_eq_true, Bool.and_true]
    exact ⟨.bl _, H, I, rfl, q⟩
/-- != of two tuples that are alike -/
def rNeM (K : PySem.W.Frag) : R2 := fun x y H Q => ∃ (a b : Addr) (xs ys : List V), x = .ref a ∧ y = .ref b ∧ SqT K H a xs ∧ SqT K H b ys ∧ xs.length = ys.length ∧
  (∀ (j : Nat) x y, xs[j]? = some x → ys[j]? = some y → CmpV K H x y true) ∧ Q (.bl false) H
theorem op_neM (hu : X.A.units + 70 < cLine) : OpR X (compareOp .NotEq) (rNeM X.K) := by
  intro pins s σ H x y v u Q I rx ry h
  obtain ⟨a, b, xs, ys, rfl, rfl, ha, hb, l1, hc, q⟩ := h
  obtain rfl : v = Value.ref a := rx
  obtain rfl : u = Value.ref b := ry
  obtain ⟨its, r, e, z⟩ := I.tuple ha
  obtain ⟨its2, r2, e2, z2⟩ := I.tuple hb
  have n1 : its.toArray.size = xs.length := by rw [List.size_toArray, ← r.length]
  have n2 : its2.toArray.size = ys.length := by rw [List.size_toArray, ← r2.length]
  show wpAny (model X.prog X.w) X.A (richCompare .NotEq (.ref a) (.ref b)) (EP X pins σ Q) X.xe s
  refine rcNe_alike e e2 (by omega) (by omega) (fun j h1 h2 => ?_) ⟨.bl _, H, I, rfl, q⟩
  have k1 : j < xs.length := by omega
  have k2 : j < ys.length := by omega
  obtain ⟨u1, hu1, ru1⟩ := r.get (List.getElem?_eq_getElem k1)
  obtain ⟨v1, hv1, rv1⟩ := r2.get (List.getElem?_eq_getElem k2)
  have g1 : its.toArray[j] = u1 := by
    have h1' : j < its.length := by simpa using h1
    rw [List.getElem?_eq_getElem h1'] at hu1
    simpa using Option.some.inj hu1
  have g2 : its2.toArray[j] = v1 := by
    have h2' : j < its2.length := by simpa using h2
    rw [List.getElem?_eq_getElem h2'] at hv1
    simpa using Option.some.inj hv1
  rw [g1, g2]
  exact (hc j _ _ (List.getElem?_eq_getElem k1) (List.getElem?_eq_getElem k2)).eqIn I ru1 rv1 (by show X.A.units + 1 + 66 < cLine; omega)
end
end HF
namespace TP
open PySem PySem.Spec PyProof.Rows L2 HX HB HG HU HH HD HS
def topS (i : Nat) : Stmt := PySem.Challenge.pw_nestyard_k77_whole_texts_read_back.main.body.getD i (.Pass ⟨0, 0, 0, 0⟩)
abbrev s_isname : Stmt := topS 3
theorem sc_isname : FnScope ["thing", "sign"] ["thing"] (defScope s_isname) := ⟨rfl, rfl, rfl, by decide +kernel, rfl, by decide +kernel, by decide +kernel⟩

abbrev s_isnum : Stmt := topS 4
theorem sc_isnum : FnScope ["thing"] ["thing"] (defScope s_isnum) := ⟨rfl, rfl, rfl, by decide +kernel, rfl, by decide +kernel, by decide +kernel⟩

abbrev s_iscalc : Stmt := topS 5
theorem sc_iscalc : FnScope ["thing"] ["thing"] (defScope s_iscalc) := ⟨rfl, rfl, rfl, by decide +kernel, rfl, by decide +kernel, by decide +kernel⟩

abbrev s_bodies : Stmt := topS 16
theorem sc_bodies : FnScope ["row", "kind", "part"] ["row"] (defScope s_bodies) := ⟨rfl, rfl, rfl, by decide +kernel, rfl, by decide +kernel, by decide +kernel⟩

abbrev s_ispart : Stmt := topS 17
theorem sc_ispart : FnScope ["kind", "thing", "known", "around", "least", "most", "words", "name", "word"] ["kind", "thing", "known", "around"] (defScope s_ispart) := ⟨rfl, rfl, rfl, by decide +kernel, rfl, by decide +kernel, by decide +kernel⟩

abbrev s_isrow : Stmt := topS 18
theorem sc_isrow : FnScope ["row", "known", "around", "word", "parts", "kind", "part"] ["row", "known", "around"] (defScope s_isrow) := ⟨rfl, rfl, rfl, by decide +kernel, rfl, by decide +kernel, by decide +kernel⟩

abbrev s_around : Stmt := topS 19
theorem sc_around : FnScope ["row", "around", "name", "word"] ["row", "around"] (defScope s_around) := ⟨rfl, rfl, rfl, by decide +kernel, rfl, by decide +kernel, by decide +kernel⟩

abbrev s_wrong : Stmt := topS 20
theorem sc_wrong : FnScope ["body", "place", "known", "around", "oftens", "at", "row", "here", "more", "which", "inner", "found"] ["body", "place", "known", "around", "oftens"] (defScope s_wrong) := ⟨rfl, rfl, rfl, by decide +kernel, rfl, by decide +kernel, by decide +kernel⟩

abbrev s_first : Stmt := topS 21
theorem sc_first : FnScope ["body", "cells", "locks", "channels"] ["body", "cells", "locks", "channels"] (defScope s_first) := ⟨rfl, rfl, rfl, by decide +kernel, rfl, by decide +kernel, by decide +kernel⟩

abbrev s_places : Stmt := topS 22
theorem sc_places : FnScope ["body", "place", "found", "at", "row", "here", "which", "inner"] ["body", "place"] (defScope s_places) := ⟨rfl, rfl, rfl, by decide +kernel, rfl, by decide +kernel, by decide +kernel⟩

abbrev s_sizes : Stmt := topS 31
theorem sc_sizes : FnScope ["thing", "least", "most", "name", "size"] ["thing", "least", "most"] (defScope s_sizes) := ⟨rfl, rfl, rfl, by decide +kernel, rfl, by decide +kernel, by decide +kernel⟩

abbrev s_locks : Stmt := topS 32
theorem sc_locks : FnScope ["thing", "name"] ["thing"] (defScope s_locks) := ⟨rfl, rfl, rfl, by decide +kernel, rfl, by decide +kernel, by decide +kernel⟩

abbrev s_np : Stmt := inClass (topS 8) 0
theorem sc_np : FnScope ["self", "place"] ["self", "place"] (defScope s_np) := ⟨rfl, rfl, rfl, by decide +kernel, rfl, by decide +kernel, by decide +kernel⟩

abbrev s_prog : Stmt := inClass (topS 34) 0
theorem sc_prog : FnScope ["self", "body", "cells", "locks", "channels", "first", "keys", "widths", "wrong"] ["self", "body", "cells", "locks", "channels"] (defScope s_prog) := ⟨rfl, rfl, rfl, by decide +kernel, rfl, by decide +kernel, by decide +kernel⟩

abbrev s_begun : Stmt := topS 42
theorem sc_begun : FnScope ["_law_script", "_law_great", "_law_cell"] ["_law_script"] (defScope s_begun) := ⟨rfl, rfl, rfl, by decide +kernel, rfl, by decide +kernel, by decide +kernel⟩

abbrev s_next : Stmt := topS 43
theorem sc_next : FnScope ["_law_draw", "_law_size", "_law_number", "_law_turn", "_law_stock", "_law_made_here", "_law_prime"] ["_law_draw", "_law_size"] (defScope s_next) := ⟨rfl, rfl, rfl, by decide +kernel, rfl, by decide +kernel, by decide +kernel⟩

abbrev s_name : Stmt := topS 44
theorem sc_name : FnScope ["_law_draw", "_law_own", "_law_name_here", "_law_many", "_law_way", "_law_letters", "_law_k"] ["_law_draw"] (defScope s_name) := ⟨rfl, rfl, rfl, by decide +kernel, rfl, by decide +kernel, by decide +kernel⟩

abbrev s_names : Stmt := topS 45
theorem sc_names : FnScope ["_law_draw", "_law_many", "_law_found", "_law_k", "_law_name_here", "_law_one"] ["_law_draw", "_law_many"] (defScope s_names) := ⟨rfl, rfl, rfl, by decide +kernel, rfl, by decide +kernel, by decide +kernel⟩

abbrev s_head : Stmt := topS 46
theorem sc_head : FnScope ["_law_draw", "_law_play", "_law_name_here"] ["_law_draw"] (defScope s_head) := ⟨rfl, rfl, rfl, by decide +kernel, rfl, by decide +kernel, by decide +kernel⟩

abbrev s_lcalc : Stmt := topS 47
theorem sc_lcalc : FnScope ["_law_draw", "_law_play", "_law_deep", "_law_way", "_law_kind", "_law_one", "_law_number"] ["_law_draw", "_law_play", "_law_deep"] (defScope s_lcalc) := ⟨rfl, rfl, rfl, by decide +kernel, rfl, by decide +kernel, by decide +kernel⟩

abbrev s_possible : Stmt := topS 48
theorem sc_possible : FnScope ["_law_play", "_law_around", "_law_some", "_law_pair"] ["_law_play", "_law_around"] (defScope s_possible) := ⟨rfl, rfl, rfl, by decide +kernel, rfl, by decide +kernel, by decide +kernel⟩

abbrev s_shape : Stmt := topS 49
theorem sc_shape : FnScope ["_law_word", "_law_shapes"] ["_law_word"] (defScope s_shape) := ⟨rfl, rfl, rfl, by decide +kernel, rfl, by decide +kernel, by decide +kernel⟩

abbrev s_lrow : Stmt := topS 50
theorem sc_lrow : FnScope ["_law_draw", "_law_play", "_law_around", "_law_deep", "_law_oftens", "_law_some", "_law_word", "_law_inner", "_law_more", "_law_name_here", "_law_names_here", "_law_homes", "_law_at", "_law_row_here", "_law_part", "_law_pool", "_law_pair", "_law_one", "_law_k"] ["_law_draw", "_law_play", "_law_around", "_law_deep", "_law_oftens"] (defScope s_lrow) := ⟨rfl, rfl, rfl, by decide +kernel, rfl, by decide +kernel, by decide +kernel⟩

abbrev s_lbody : Stmt := topS 51
theorem sc_lbody : FnScope ["_law_draw", "_law_play", "_law_around", "_law_deep", "_law_oftens", "_law_rows", "_law_k"] ["_law_draw", "_law_play", "_law_around", "_law_deep", "_law_oftens"] (defScope s_lbody) := ⟨rfl, rfl, rfl, by decide +kernel, rfl, by decide +kernel, by decide +kernel⟩

abbrev s_drawn : Stmt := topS 52
theorem sc_drawn : FnScope ["_law_draw", "_law_play", "_law_rows", "_law_turn"] ["_law_draw"] (defScope s_drawn) := ⟨rfl, rfl, rfl, by decide +kernel, rfl, by decide +kernel, by decide +kernel⟩

abbrev s_npl : Stmt := inClass (topS 10) 0
theorem sc_npl : FnScope ["self", "at"] ["self", "at"] (defScope s_npl) := ⟨rfl, rfl, rfl, by decide +kernel, rfl, by decide +kernel, by decide +kernel⟩

abbrev s_rowat : Stmt := topS 33
theorem sc_rowat : FnScope ["body", "place", "row", "which", "at"] ["body", "place"] (defScope s_rowat) := ⟨rfl, rfl, rfl, by decide +kernel, rfl, by decide +kernel, by decide +kernel⟩

abbrev s_pplaces : Stmt := inClass (topS 34) 8
theorem sc_pplaces : FnScope ["self"] ["self"] (defScope s_pplaces) := ⟨rfl, rfl, rfl, by decide +kernel, rfl, by decide +kernel, by decide +kernel⟩

abbrev s_prow : Stmt := inClass (topS 34) 9
theorem sc_prow : FnScope ["self", "place", "one"] ["self", "place"] (defScope s_prow) := ⟨rfl, rfl, rfl, by decide +kernel, rfl, by decide +kernel, by decide +kernel⟩

abbrev s_peq : Stmt := inClass (topS 34) 1
theorem sc_peq : FnScope ["self", "other", "mine"] ["self", "other"] (defScope s_peq) := ⟨rfl, rfl, rfl, by decide +kernel, rfl, by decide +kernel, by decide +kernel⟩

abbrev s_plen : Stmt := inClass (topS 34) 2
theorem sc_plen : FnScope ["self"] ["self"] (defScope s_plen) := ⟨rfl, rfl, rfl, by decide +kernel, rfl, by decide +kernel, by decide +kernel⟩

abbrev s_pbody : Stmt := inClass (topS 34) 4
theorem sc_pbody : FnScope ["self"] ["self"] (defScope s_pbody) := ⟨rfl, rfl, rfl, by decide +kernel, rfl, by decide +kernel, by decide +kernel⟩

abbrev s_pcells : Stmt := inClass (topS 34) 5
theorem sc_pcells : FnScope ["self"] ["self"] (defScope s_pcells) := ⟨rfl, rfl, rfl, by decide +kernel, rfl, by decide +kernel, by decide +kernel⟩

abbrev s_plocks : Stmt := inClass (topS 34) 6
theorem sc_plocks : FnScope ["self"] ["self"] (defScope s_plocks) := ⟨rfl, rfl, rfl, by decide +kernel, rfl, by decide +kernel, by decide +kernel⟩

abbrev s_pchans : Stmt := inClass (topS 34) 7
theorem sc_pchans : FnScope ["self"] ["self"] (defScope s_pchans) := ⟨rfl, rfl, rfl, by decide +kernel, rfl, by decide +kernel, by decide +kernel⟩

abbrev s_cwords : Stmt := topS 24
theorem sc_cwords : FnScope ["calc", "kind", "one", "other"] ["calc"] (defScope s_cwords) := ⟨rfl, rfl, rfl, by decide +kernel, rfl, by decide +kernel, by decide +kernel⟩

abbrev s_rwords : Stmt := topS 25
theorem sc_rwords : FnScope ["row", "word", "parts", "found", "kind", "part"] ["row"] (defScope s_rwords) := ⟨rfl, rfl, rfl, by decide +kernel, rfl, by decide +kernel, by decide +kernel⟩

abbrev s_bwords : Stmt := topS 26
theorem sc_bwords : FnScope ["body", "row", "word"] ["body"] (defScope s_bwords) := ⟨rfl, rfl, rfl, by decide +kernel, rfl, by decide +kernel, by decide +kernel⟩

abbrev s_hwords : Stmt := topS 27
theorem sc_hwords : FnScope ["cells", "locks", "channels", "found", "name"] ["cells", "locks", "channels"] (defScope s_hwords) := ⟨rfl, rfl, rfl, by decide +kernel, rfl, by decide +kernel, by decide +kernel⟩

abbrev s_pstr : Stmt := inClass (topS 34) 3
theorem sc_pstr : FnScope ["self"] ["self"] (defScope s_pstr) := ⟨rfl, rfl, rfl, by decide +kernel, rfl, by decide +kernel, by decide +kernel⟩

abbrev s_ptext : Stmt := topS 37
theorem sc_ptext : FnScope ["program"] ["program"] (defScope s_ptext) := ⟨rfl, rfl, rfl, by decide +kernel, rfl, by decide +kernel, by decide +kernel⟩

abbrev s_made : Stmt := topS 53
theorem sc_made : FnScope ["_law_play", "_law_rows"] ["_law_play", "_law_rows"] (defScope s_made) := ⟨rfl, rfl, rfl, by decide +kernel, rfl, by decide +kernel, by decide +kernel⟩

abbrev s_lcwords : Stmt := topS 54
theorem sc_lcwords : FnScope ["_law_calc_here"] ["_law_calc_here"] (defScope s_lcwords) := ⟨rfl, rfl, rfl, by decide +kernel, rfl, by decide +kernel, by decide +kernel⟩

abbrev s_lwords : Stmt := topS 55
theorem sc_lwords : FnScope ["_law_rows", "_law_found", "_law_row_here", "_law_kind", "_law_part"] ["_law_rows"] (defScope s_lwords) := ⟨rfl, rfl, rfl, by decide +kernel, rfl, by decide +kernel, by decide +kernel⟩

abbrev s_heads : Stmt := topS 56
theorem sc_heads : FnScope ["_law_play", "_law_found", "_law_name_here"] ["_law_play"] (defScope s_heads) := ⟨rfl, rfl, rfl, by decide +kernel, rfl, by decide +kernel, by decide +kernel⟩

abbrev s_isfig : Stmt := topS 38
theorem sc_isfig : FnScope ["word", "figures", "sign"] ["word"] (defScope s_isfig) := ⟨rfl, rfl, rfl, by decide +kernel, rfl, by decide +kernel, by decide +kernel⟩

abbrev s_rinit : Stmt := inClass (topS 39) 0
theorem sc_rinit : FnScope ["self", "text", "row", "word"] ["self", "text"] (defScope s_rinit) := ⟨rfl, rfl, rfl, by decide +kernel, rfl, by decide +kernel, by decide +kernel⟩

abbrev s_peek : Stmt := inClass (topS 39) 1
theorem sc_peek : FnScope ["self"] ["self"] (defScope s_peek) := ⟨rfl, rfl, rfl, by decide +kernel, rfl, by decide +kernel, by decide +kernel⟩

abbrev s_takeif : Stmt := inClass (topS 39) 2
theorem sc_takeif : FnScope ["self", "good", "word"] ["self", "good"] (defScope s_takeif) := ⟨rfl, rfl, rfl, by decide +kernel, rfl, by decide +kernel, by decide +kernel⟩

abbrev s_takeword : Stmt := inClass (topS 39) 3
theorem sc_takeword : FnScope ["self", "word"] ["self", "word"] (defScope s_takeword) := ⟨rfl, rfl, rfl, by decide +kernel, rfl, by decide +kernel, by decide +kernel⟩

abbrev s_takename : Stmt := inClass (topS 39) 4
theorem sc_takename : FnScope ["self"] ["self"] (defScope s_takename) := ⟨rfl, rfl, rfl, by decide +kernel, rfl, by decide +kernel, by decide +kernel⟩

abbrev s_takenum : Stmt := inClass (topS 39) 5
theorem sc_takenum : FnScope ["self"] ["self"] (defScope s_takenum) := ⟨rfl, rfl, rfl, by decide +kernel, rfl, by decide +kernel, by decide +kernel⟩

abbrev s_takecalc : Stmt := inClass (topS 39) 6
theorem sc_takecalc : FnScope ["self", "kind", "one", "other"] ["self"] (defScope s_takecalc) := ⟨rfl, rfl, rfl, by decide +kernel, rfl, by decide +kernel, by decide +kernel⟩

abbrev s_takepart : Stmt := inClass (topS 39) 7
theorem sc_takepart : FnScope ["self", "kind", "rows"] ["self", "kind"] (defScope s_takepart) := ⟨rfl, rfl, rfl, by decide +kernel, rfl, by decide +kernel, by decide +kernel⟩

abbrev s_takerows : Stmt := inClass (topS 39) 8
theorem sc_takerows : FnScope ["self", "last", "rows", "word", "kind"] ["self", "last"] (defScope s_takerows) := ⟨rfl, rfl, rfl, by decide +kernel, rfl, by decide +kernel, by decide +kernel⟩

abbrev s_readprog : Stmt := topS 40
theorem sc_readprog : FnScope ["text", "reader", "cells", "locks", "channels", "twice", "kind", "name", "sizes", "rows"] ["text"] (defScope s_readprog) := ⟨rfl, rfl, rfl, by decide +kernel, rfl, by decide +kernel, by decide +kernel⟩

abbrev s_joined : Stmt := topS 57
theorem sc_joined : FnScope ["_law_draw", "_law_words_here", "_law_text", "_law_word"] ["_law_draw", "_law_words_here"] (defScope s_joined) := ⟨rfl, rfl, rfl, by decide +kernel, rfl, by decide +kernel, by decide +kernel⟩

abbrev s_turned : Stmt := topS 58
theorem sc_turned : FnScope ["_law_draw", "_law_heads_here", "_law_found", "_law_head_here", "_law_least"] ["_law_draw", "_law_heads_here"] (defScope s_turned) := ⟨rfl, rfl, rfl, by decide +kernel, rfl, by decide +kernel, by decide +kernel⟩

abbrev s_lread : Stmt := topS 59
theorem sc_lread : FnScope ["_law_text", "_law_found"] ["_law_text"] (defScope s_lread) := ⟨rfl, rfl, rfl, by decide +kernel, rfl, by decide +kernel, by decide +kernel⟩

abbrev s_law : Stmt := topS 60
theorem sc_law : FnScope ["_law_script", "_law_draw", "_law_play", "_law_rows", "_law_due", "_law_words_here", "_law_head_here", "_law_text", "_law_found"] ["_law_script"] (defScope s_law) := ⟨rfl, rfl, rfl, by decide +kernel, rfl, by decide +kernel, by decide +kernel⟩

structure Tp (K : PySem.W.Frag) (w : World) (mg : Str → Option Value) where
  C_YardError : Addr
  gC_YardError : mg "YardError" = some (.ref C_YardError)
  bs_YardError : HY.BaseI K C_YardError
  C_NoProgram : Addr
  gC_NoProgram : mg "NoProgram" = some (.ref C_NoProgram)
  x_NoProgram : OexC K C_NoProgram
  xf_NoProgram : XfC K C_NoProgram
  ee_NoProgram : PySem.W.exmOne K (.ref C_NoProgram) (.ref C_NoProgram) = some true
  na_NoProgram_place : NoAttr K C_NoProgram "place"
  C_Program : Addr
  gC_Program : mg "Program" = some (.ref C_Program)
  cl_Program : Cls K C_Program
  na_Program_spots : NoAttr K C_Program "spots"
  na_Program_tree : NoAttr K C_Program "tree"
  na_Program_first : NoAttr K C_Program "first"
  na_Program_bolts : NoAttr K C_Program "bolts"
  na_Program_widths : NoAttr K C_Program "widths"
  C_NoPlace : Addr
  gC_NoPlace : mg "NoPlace" = some (.ref C_NoPlace)
  x_NoPlace : OexC K C_NoPlace
  xf_NoPlace : XfC K C_NoPlace
  ee_NoPlace : PySem.W.exmOne K (.ref C_NoPlace) (.ref C_NoPlace) = some true
  na_NoPlace_at : NoAttr K C_NoPlace "at"
  C_Reader : Addr
  gC_Reader : mg "Reader" = some (.ref C_Reader)
  cl_Reader : Cls K C_Reader
  na_Reader_left : NoAttr K C_Reader "left"
  na_Reader_at : NoAttr K C_Reader "at"
  oc_Program : HC.OwnC K C_Program
  f_isname : Addr
  fd_isname : FuncData
  D_isname : Df K mg "is_name" "is_name" s_isname ["thing"] f_isname fd_isname
  f_isnum : Addr
  fd_isnum : FuncData
  D_isnum : Df K mg "is_number" "is_number" s_isnum ["thing"] f_isnum fd_isnum
  f_iscalc : Addr
  fd_iscalc : FuncData
  D_iscalc : Df K mg "is_calc" "is_calc" s_iscalc ["thing"] f_iscalc fd_iscalc
  f_bodies : Addr
  fd_bodies : FuncData
  D_bodies : Df K mg "bodies_of" "bodies_of" s_bodies ["row"] f_bodies fd_bodies
  f_ispart : Addr
  fd_ispart : FuncData
  D_ispart : Df K mg "is_part" "is_part" s_ispart ["kind", "thing", "known", "around"] f_ispart fd_ispart
  f_isrow : Addr
  fd_isrow : FuncData
  D_isrow : Df K mg "is_row" "is_row" s_isrow ["row", "known", "around"] f_isrow fd_isrow
  f_around : Addr
  fd_around : FuncData
  D_around : Df K mg "around_in" "around_in" s_around ["row", "around"] f_around fd_around
  f_wrong : Addr
  fd_wrong : FuncData
  D_wrong : Df K mg "wrong_in" "wrong_in" s_wrong ["body", "place", "known", "around", "oftens"] f_wrong fd_wrong
  f_first : Addr
  fd_first : FuncData
  dv_first_cells : Addr
  dt_first_cells : ∀ H : Hp, SqT K H dv_first_cells []
  dv_first_locks : Addr
  dt_first_locks : ∀ H : Hp, SqT K H dv_first_locks []
  dv_first_channels : Addr
  dt_first_channels : ∀ H : Hp, SqT K H dv_first_channels []
  D_first : FunD K "first_wrong" "first_wrong" (defArgs s_first) (defBody s_first) (defScope s_first) [] [("cells", V.ref dv_first_cells), ("locks", V.ref dv_first_locks), ("channels", V.ref dv_first_channels)] f_first fd_first
  g_first : mg "first_wrong" = some (.ref f_first)
  f_places : Addr
  fd_places : FuncData
  D_places : Df K mg "places_in" "places_in" s_places ["body", "place"] f_places fd_places
  f_sizes : Addr
  fd_sizes : FuncData
  D_sizes : Df K mg "are_sizes" "are_sizes" s_sizes ["thing", "least", "most"] f_sizes fd_sizes
  f_locks : Addr
  fd_locks : FuncData
  D_locks : Df K mg "are_locks" "are_locks" s_locks ["thing"] f_locks fd_locks
  f_np : Addr
  fd_np : FuncData
  D_np : Fun K "__init__" "NoProgram.__init__" s_np f_np fd_np
  b_np : L2.Binds K fd_np ["self", "place"] []
  m_np : Meth K C_NoProgram "__init__" f_np
  i_NoProgram : PySem.W.findIn K (.ref C_NoProgram) "__init__" = some (some (.ref f_np))
  ti_NoProgram : PySem.W.typeIn K (.ref f_np) = some (.type "function")
  f_prog : Addr
  fd_prog : FuncData
  D_prog : FunD K "__init__" "Program.__init__" (defArgs s_prog) (defBody s_prog) (defScope s_prog) [] [("cells", V.non), ("locks", V.non), ("channels", V.non)] f_prog fd_prog
  m_prog : Meth K C_Program "__init__" f_prog
  mk_Program : Mk K C_Program f_prog
  f_begun : Addr
  fd_begun : FuncData
  D_begun : Df K mg "_law_begun" "_law_begun" s_begun ["_law_script"] f_begun fd_begun
  f_next : Addr
  fd_next : FuncData
  D_next : Df K mg "_law_next" "_law_next" s_next ["_law_draw", "_law_size"] f_next fd_next
  f_name : Addr
  fd_name : FuncData
  D_name : Df K mg "_law_name" "_law_name" s_name ["_law_draw"] f_name fd_name
  f_names : Addr
  fd_names : FuncData
  D_names : Df K mg "_law_names" "_law_names" s_names ["_law_draw", "_law_many"] f_names fd_names
  f_head : Addr
  fd_head : FuncData
  D_head : Df K mg "_law_head" "_law_head" s_head ["_law_draw"] f_head fd_head
  f_lcalc : Addr
  fd_lcalc : FuncData
  D_lcalc : Df K mg "_law_calc" "_law_calc" s_lcalc ["_law_draw", "_law_play", "_law_deep"] f_lcalc fd_lcalc
  f_possible : Addr
  fd_possible : FuncData
  D_possible : Df K mg "_law_possible" "_law_possible" s_possible ["_law_play", "_law_around"] f_possible fd_possible
  f_shape : Addr
  fd_shape : FuncData
  D_shape : Df K mg "_law_shape" "_law_shape" s_shape ["_law_word"] f_shape fd_shape
  f_lrow : Addr
  fd_lrow : FuncData
  D_lrow : Df K mg "_law_row" "_law_row" s_lrow ["_law_draw", "_law_play", "_law_around", "_law_deep", "_law_oftens"] f_lrow fd_lrow
  f_lbody : Addr
  fd_lbody : FuncData
  D_lbody : Df K mg "_law_body" "_law_body" s_lbody ["_law_draw", "_law_play", "_law_around", "_law_deep", "_law_oftens"] f_lbody fd_lbody
  f_drawn : Addr
  fd_drawn : FuncData
  D_drawn : Df K mg "_law_drawn" "_law_drawn" s_drawn ["_law_draw"] f_drawn fd_drawn
  f_npl : Addr
  fd_npl : FuncData
  D_npl : Fun K "__init__" "NoPlace.__init__" s_npl f_npl fd_npl
  b_npl : L2.Binds K fd_npl ["self", "at"] []
  m_npl : Meth K C_NoPlace "__init__" f_npl
  i_NoPlace : PySem.W.findIn K (.ref C_NoPlace) "__init__" = some (some (.ref f_npl))
  ti_NoPlace : PySem.W.typeIn K (.ref f_npl) = some (.type "function")
  f_rowat : Addr
  fd_rowat : FuncData
  D_rowat : Df K mg "row_at" "row_at" s_rowat ["body", "place"] f_rowat fd_rowat
  f_pplaces : Addr
  fd_pplaces : FuncData
  D_pplaces : Fun K "places" "Program.places" s_pplaces f_pplaces fd_pplaces
  b_pplaces : L2.Binds K fd_pplaces ["self"] []
  m_pplaces : Meth K C_Program "places" f_pplaces
  f_prow : Addr
  fd_prow : FuncData
  D_prow : Fun K "row" "Program.row" s_prow f_prow fd_prow
  b_prow : L2.Binds K fd_prow ["self", "place"] []
  m_prow : Meth K C_Program "row" f_prow
  f_peq : Addr
  fd_peq : FuncData
  D_peq : Fun K "__eq__" "Program.__eq__" s_peq f_peq fd_peq
  b_peq : L2.Binds K fd_peq ["self", "other"] []
  m_peq : Meth K C_Program "__eq__" f_peq
  f_plen : Addr
  fd_plen : FuncData
  D_plen : Fun K "__len__" "Program.__len__" s_plen f_plen fd_plen
  b_plen : L2.Binds K fd_plen ["self"] []
  m_plen : Meth K C_Program "__len__" f_plen
  f_pbody : Addr
  fd_pbody : FuncData
  D_pbody : Fun K "body" "Program.body" s_pbody f_pbody fd_pbody
  b_pbody : L2.Binds K fd_pbody ["self"] []
  m_pbody : Meth K C_Program "body" f_pbody
  f_pcells : Addr
  fd_pcells : FuncData
  D_pcells : Fun K "cells" "Program.cells" s_pcells f_pcells fd_pcells
  b_pcells : L2.Binds K fd_pcells ["self"] []
  m_pcells : Meth K C_Program "cells" f_pcells
  f_plocks : Addr
  fd_plocks : FuncData
  D_plocks : Fun K "locks" "Program.locks" s_plocks f_plocks fd_plocks
  b_plocks : L2.Binds K fd_plocks ["self"] []
  m_plocks : Meth K C_Program "locks" f_plocks
  f_pchans : Addr
  fd_pchans : FuncData
  D_pchans : Fun K "channels" "Program.channels" s_pchans f_pchans fd_pchans
  b_pchans : L2.Binds K fd_pchans ["self"] []
  m_pchans : Meth K C_Program "channels" f_pchans
  f_cwords : Addr
  fd_cwords : FuncData
  D_cwords : Df K mg "calc_words" "calc_words" s_cwords ["calc"] f_cwords fd_cwords
  f_rwords : Addr
  fd_rwords : FuncData
  D_rwords : Df K mg "row_words" "row_words" s_rwords ["row"] f_rwords fd_rwords
  f_bwords : Addr
  fd_bwords : FuncData
  D_bwords : Df K mg "body_words" "body_words" s_bwords ["body"] f_bwords fd_bwords
  f_hwords : Addr
  fd_hwords : FuncData
  D_hwords : Df K mg "head_words" "head_words" s_hwords ["cells", "locks", "channels"] f_hwords fd_hwords
  f_pstr : Addr
  fd_pstr : FuncData
  D_pstr : Fun K "__str__" "Program.__str__" s_pstr f_pstr fd_pstr
  b_pstr : L2.Binds K fd_pstr ["self"] []
  m_pstr : Meth K C_Program "__str__" f_pstr
  f_ptext : Addr
  fd_ptext : FuncData
  D_ptext : Df K mg "program_text" "program_text" s_ptext ["program"] f_ptext fd_ptext
  f_made : Addr
  fd_made : FuncData
  D_made : Df K mg "_law_made" "_law_made" s_made ["_law_play", "_law_rows"] f_made fd_made
  f_lcwords : Addr
  fd_lcwords : FuncData
  D_lcwords : Df K mg "_law_calc_words" "_law_calc_words" s_lcwords ["_law_calc_here"] f_lcwords fd_lcwords
  f_lwords : Addr
  fd_lwords : FuncData
  D_lwords : Df K mg "_law_words" "_law_words" s_lwords ["_law_rows"] f_lwords fd_lwords
  f_heads : Addr
  fd_heads : FuncData
  D_heads : Df K mg "_law_heads" "_law_heads" s_heads ["_law_play"] f_heads fd_heads
  f_isfig : Addr
  fd_isfig : FuncData
  D_isfig : Df K mg "is_figures" "is_figures" s_isfig ["word"] f_isfig fd_isfig
  f_rinit : Addr
  fd_rinit : FuncData
  D_rinit : Fun K "__init__" "Reader.__init__" s_rinit f_rinit fd_rinit
  b_rinit : L2.Binds K fd_rinit ["self", "text"] []
  m_rinit : Meth K C_Reader "__init__" f_rinit
  mk_Reader : Mk K C_Reader f_rinit
  f_peek : Addr
  fd_peek : FuncData
  D_peek : Fun K "peek" "Reader.peek" s_peek f_peek fd_peek
  b_peek : L2.Binds K fd_peek ["self"] []
  m_peek : Meth K C_Reader "peek" f_peek
  f_takeif : Addr
  fd_takeif : FuncData
  D_takeif : Fun K "take_if" "Reader.take_if" s_takeif f_takeif fd_takeif
  b_takeif : L2.Binds K fd_takeif ["self", "good"] []
  m_takeif : Meth K C_Reader "take_if" f_takeif
  f_takeword : Addr
  fd_takeword : FuncData
  D_takeword : Fun K "take_word" "Reader.take_word" s_takeword f_takeword fd_takeword
  b_takeword : L2.Binds K fd_takeword ["self", "word"] []
  m_takeword : Meth K C_Reader "take_word" f_takeword
  f_takename : Addr
  fd_takename : FuncData
  D_takename : Fun K "take_name" "Reader.take_name" s_takename f_takename fd_takename
  b_takename : L2.Binds K fd_takename ["self"] []
  m_takename : Meth K C_Reader "take_name" f_takename
  f_takenum : Addr
  fd_takenum : FuncData
  D_takenum : Fun K "take_number" "Reader.take_number" s_takenum f_takenum fd_takenum
  b_takenum : L2.Binds K fd_takenum ["self"] []
  m_takenum : Meth K C_Reader "take_number" f_takenum
  f_takecalc : Addr
  fd_takecalc : FuncData
  D_takecalc : Fun K "take_calc" "Reader.take_calc" s_takecalc f_takecalc fd_takecalc
  b_takecalc : L2.Binds K fd_takecalc ["self"] []
  m_takecalc : Meth K C_Reader "take_calc" f_takecalc
  f_takepart : Addr
  fd_takepart : FuncData
  D_takepart : Fun K "take_part" "Reader.take_part" s_takepart f_takepart fd_takepart
  b_takepart : L2.Binds K fd_takepart ["self", "kind"] []
  m_takepart : Meth K C_Reader "take_part" f_takepart
  f_takerows : Addr
  fd_takerows : FuncData
  D_takerows : Fun K "take_rows" "Reader.take_rows" s_takerows f_takerows fd_takerows
  b_takerows : L2.Binds K fd_takerows ["self", "last"] []
  m_takerows : Meth K C_Reader "take_rows" f_takerows
  f_readprog : Addr
  fd_readprog : FuncData
  D_readprog : Df K mg "read_program" "read_program" s_readprog ["text"] f_readprog fd_readprog
  f_joined : Addr
  fd_joined : FuncData
  D_joined : Df K mg "_law_joined" "_law_joined" s_joined ["_law_draw", "_law_words_here"] f_joined fd_joined
  f_turned : Addr
  fd_turned : FuncData
  D_turned : Df K mg "_law_turned" "_law_turned" s_turned ["_law_draw", "_law_heads_here"] f_turned fd_turned
  f_lread : Addr
  fd_lread : FuncData
  D_lread : Df K mg "_law_read" "_law_read" s_lread ["_law_text"] f_lread fd_lread
  c_LETTERS : ∃ t : Tok, mg "LETTERS" = some (.str "abcdefghijklmnopqrstuvwxyz" t)
  a_KINDS : Addr
  c_KINDS : mg "KINDS" = some (.ref a_KINDS)
  t_KINDS : ∀ H : Hp, SqT K H a_KINDS [V.str "sum", V.str "minus", V.str "less"]
  a_PARTS : Addr
  c_PARTS : mg "PARTS" = some (.ref a_PARTS)
  d_PARTS : HH.DT K w a_PARTS [("put", [V.str "name", V.str "calc"]), ("read", [V.str "name", V.str "cell"]), ("write", [V.str "cell", V.str "calc"]), ("tell", [V.str "calc"]), ("send", [V.str "channel", V.str "calc"]), ("take", [V.str "name", V.str "channel"]), ("hold", [V.str "lock", V.str "body"]), ("rest", [V.str "rest"]), ("nest", [V.str "scope", V.str "body"]), ("within", [V.str "span", V.str "scope", V.str "body"]), ("start", [V.str "home", V.str "body"]), ("off", [V.str "entered"]), ("shield", [V.str "body"]), ("fail", [V.str "name"]), ("catch", [V.str "body", V.str "name", V.str "body"]), ("try", [V.str "body", V.str "body"]), ("if", [V.str "calc", V.str "body", V.str "body"]), ("often", [V.str "times", V.str "body"])]
  a_RANGES : Addr
  c_RANGES : mg "RANGES" = some (.ref a_RANGES)
  d_RANGES : HH.DT K w a_RANGES [("rest", [V.int 0, V.int 9]), ("span", [V.int 1, V.int 9]), ("times", [V.int 0, V.int 3])]
  c_MOST_DEEP : ∃ t : Tok, mg "MOST_DEEP" = some (.int (9) t)
  c_MOST_OFTEN : ∃ t : Tok, mg "MOST_OFTEN" = some (.int (2) t)
  c_MOST_ROWS : ∃ t : Tok, mg "MOST_ROWS" = some (.int (60) t)
  c_MOST_NAMES : ∃ t : Tok, mg "MOST_NAMES" = some (.int (4) t)
  a_NUMBERED : Addr
  c_NUMBERED : mg "NUMBERED" = some (.ref a_NUMBERED)
  t_NUMBERED : ∀ H : Hp, SqT K H a_NUMBERED [V.str "rest", V.str "span", V.str "times"]
  all : mg "all" = none
  bool : mg "bool" = none
  dict : mg "dict" = none
  enumerate : mg "enumerate" = none
  int : mg "int" = none
  isinstance : mg "isinstance" = none
  len : mg "len" = none
  list : mg "list" = none
  range : mg "range" = none
  set : mg "set" = none
  sorted : mg "sorted" = none
  str : mg "str" = none
  tuple : mg "tuple" = none
  zip : mg "zip" = none

/-! ### names and numbers, of any data -/
def isLow (c : Nat) : Bool := decide (97 ≤ c) && decide (c ≤ 122)
def isNameL (z : Str) : Bool := decide (1 ≤ z.length) && decide (z.length ≤ 6) && z.cps.toList.all isLow
def isNameD : PyData → Bool
  | .str z => isNameL z
  | _ => false
def isNumD : PyData → Bool
  | .int _ => true
  | _ => false
def isKindD : PyData → Bool
  | .str k => decide (k = "sum" ∨ k = "minus" ∨ k = "less")
  | _ => false
def isCalcD : PyData → Bool
  | .int _ => true
  | .str z => isNameL z
  | .tuple [k, a, b] => isKindD k && (isCalcD a && isCalcD b)
  | _ => false
theorem letters_mem (c : Nat) : decide (c ∈ ("abcdefghijklmnopqrstuvwxyz" : Str).cps.toList) = isLow c := by
  have e : ("abcdefghijklmnopqrstuvwxyz" : Str).cps.toList = (List.range 26).map (· + 97) := by decide +kernel
  rw [e]
  unfold isLow
  rw [← Bool.decide_and]
  congr 1
  simp only [List.mem_map, List.mem_range, eq_iff_iff]
  constructor
  · rintro ⟨j, hj, rfl⟩; omega
  · rintro ⟨h1, h2⟩; exact ⟨c - 97, by omega, by omega⟩
theorem kinds_in (s : Str) : inV (.str s) [.str "sum", .str "minus", .str "less"] = decide (s = "sum" ∨ s = "minus" ∨ s = "less") := by
  show (eqV (.str "sum") (.str s) || (eqV (.str "minus") (.str s) || (eqV (.str "less") (.str s) || false))) = _
  simp only [eqV, Bool.or_false, Bool.decide_or]
  have e : ∀ z : Str, (z == s) = decide (s = z) := fun z => by
    by_cases h : s = z
    · subst h; simp
    · rw [decide_eq_false h]; exact beq_eq_false_iff_ne.mpr (Ne.symm h)
  rw [e, e, e]
section
variable {P : Program} {w : World} {K : PySem.W.Frag} {mg : Str → Option Value} {base : Heap}
/-- of data: answers b, changes nothing -/
def spD (K : PySem.W.Frag) (f : PyData → Bool) : Sp := fun vs H Q _ => ∃ v d, vs = [v] ∧ Dp K H v d ∧ okD d = true ∧ ∀ H', Same H H' → Q (.bl (f d)) H'
theorem ok_isname (T : Tp K w mg) : FnOk P w K mg base CX0 1 T.f_isname T.fd_isname ["thing"] (spD K isNameD) := by
  refine T.D_isname.F.ok sc_isname (fun vs H Q E h => ?_) (fun cdv A outer s H vs Q E hr h => ?_)
  · obtain ⟨v, d, rfl, _⟩ := h
    rfl
  · obtain ⟨v, d, rfl, hd, hk, q⟩ := h
    refine ⟨_, (pss_cons (ps_if (PW.pt (pw_or (pt_not (pt_val (pe_callB call_isi (by rfl) T.isinstance (by decide +kernel) (pa_cons (pv 0) (pa_cons (pe_bltn (v := .ty "str") (by rfl) T.str (by decide +kernel) rfl) pa_nil))))) (pw_or1 (pt_not (pt_chain op_le op_le pe_int (pe_callB call_len_str (by rfl) T.len PySem.boot_len (pa_cons (pv 0) pa_nil)) pe_int)))))
  (pss_one (ps_ret pe_bl))
  pss_nil)
  (pss_one (ps_ret (pe_callB (cr_all rfl) (by rfl) T.all (by decide +kernel) (pa_cons (pe_lc (own := [("sign", 1)]) (g := gName 1) (by rfl) sc_isname.nd (pi_str (pv 0)) (blkOk_by (own := [("sign", 1)]) (N := ["thing", "sign"]) (sc := defScope s_isname) (by decide +kernel)) (fun _ _ _ _ _ => (pg_name (i := 1) sc_isname.nd rfl (.inl rfl))) (fun _ _ _ _ _ => pts_nil) (fun _ _ _ _ _ => (pe_cmpR op_in_sign (pv 1) (pe_gs (by rfl) T.c_LETTERS) rfl))) pa_nil))))), ?_⟩
    obtain ⟨ty, kin⟩ := dp_ty hd
    refine ⟨_, rfl, _, _, _, _, _, rfl, .ty "str", ty, kit_dat (by decide) kin, _, rfl, ?_⟩
    by_cases hs : kindD d = "str"
    · obtain ⟨z, rfl⟩ : ∃ z, d = .str z := by cases d <;> simp [kindD] at hs ⊢
      cases hd
      have hz : z.length ≤ 100000 := by simpa [okD] using hk
      refine ite0 (by rw [decide_eq_true hs]; rfl) ?_
      have q : ∀ H', Same H H' → Q (.bl (isNameL z)) H' := q
      refine ⟨_, rfl, _, rfl, Evl.sz_of hz, _, _, rfl, rfl, _, rfl, ?_⟩
      have fin : ∀ b : Bool, (decide (1 ≤ z.length) && decide (z.length ≤ 6)) = b → b = false → ∀ H', Same H H' → Q (.bl false) H' := fun b e eb H' s' => by
        have h2 := q H' s'
        unfold isNameL at h2
        rw [e, eb] at h2
        exact h2
      have len1 : (decide ((1 : Int) ≤ (z.length : Nat))) = decide (1 ≤ z.length) := decide_eq_decide.mpr (by omega)
      have len6 : (decide (((z.length : Nat) : Int) ≤ 6)) = decide (z.length ≤ 6) := decide_eq_decide.mpr (by omega)
      by_cases h1 : 1 ≤ z.length
      · refine ite1 (by rw [len1]; exact decide_eq_true h1) ⟨_, _, rfl, rfl, ?_⟩
        by_cases h6 : z.length ≤ 6
        · refine ⟨true, by show V.bl _ = _; rw [len6, decide_eq_true h6], ?_⟩
          refine ⟨_, rfl, _, rfl, fun D nD => lc_it walk_str (fun i H2 => Same H H2 ∧ H2 D = some (.lst ((z.cps.toList.take i).map fun c => V.bl (isLow c)))) ⟨same_upd nD, upd_same⟩ (fun _ _ _ _ => trivial) ?_ ?_⟩
          · rintro i x H2 H3 hi ⟨sm, hD⟩ ⟨rfl, c, hc, rfl⟩
            refine ⟨rfl, _, rfl, c, _, rfl, rfl, _, hD, ?_, sm.own nD, ?_⟩
            · rw [List.length_map, List.length_take, Array.length_toList]
              exact small1000 (Nat.le_trans (Nat.min_le_left _ _) (Nat.le_trans (Nat.le_of_lt hi) (Nat.le_trans h6 (by decide))))
            · rw [upd_same, letters_mem, List.take_add_one, List.map_append, Array.getElem?_toList, hc]
              rfl
          · rintro H2 ⟨sm, hD⟩
            rw [show z.cps.size = z.cps.toList.length by simp, List.take_length] at hD
            have e : (z.cps.toList.map fun c => V.bl (isLow c)) = (z.cps.toList.map isLow).map V.bl := by rw [List.map_map]; rfl
            rw [e] at hD
            refine ⟨D, _, rfl, sl hD, ?_⟩
            have h2 := q H2 sm
            unfold isNameL at h2
            rw [decide_eq_true h1, decide_eq_true h6] at h2
            rw [List.all_map]
            exact h2
        · refine ⟨false, by show V.bl _ = _; rw [len6, decide_eq_false h6], ?_⟩
          exact fin _ rfl (by rw [decide_eq_false h6, Bool.and_false]) H (Same.refl H)
      · refine ite0 (by rw [len1]; exact decide_eq_false h1) ⟨false, rfl, ?_⟩
        exact fin _ rfl (by rw [decide_eq_false h1, Bool.false_and]) H (Same.refl H)
    · refine ite1 (by rw [decide_eq_false hs]; rfl) ?_
      have : isNameD d = false := by cases d <;> first | rfl | exact absurd rfl hs
      have h2 := q H (Same.refl H)
      rw [this] at h2
      exact h2
theorem ok_isnum (T : Tp K w mg) : FnOk P w K mg base CX0 1 T.f_isnum T.fd_isnum ["thing"] (spD K isNumD) := by
  refine T.D_isnum.F.ok sc_isnum (fun vs H Q E h => ?_) (fun cdv A outer s H vs Q E hr h => ?_)
  · obtain ⟨v, d, rfl, _⟩ := h
    rfl
  · obtain ⟨v, d, rfl, hd, hk, q⟩ := h
    have q := q H (Same.refl H)
    refine ⟨_, (pss_one (ps_ret (pe_and (pe_callB call_isi (by rfl) T.isinstance (by decide +kernel) (pa_cons (pv 0) (pa_cons (pe_bltn (v := .ty "int") (by rfl) T.int (by decide +kernel) rfl) pa_nil))) (pe_one (pe_notT (pe_callB call_isi (by rfl) T.isinstance (by decide +kernel) (pa_cons (pv 0) (pa_cons (pe_bltn (v := .ty "bool") (by rfl) T.bool (by decide +kernel) rfl) pa_nil)))))))), ?_⟩
    obtain ⟨ty, kin⟩ := dp_ty hd
    refine ⟨_, rfl, _, _, _, _, _, rfl, .ty "int", ty, kit_datInt kin, _, rfl, ?_⟩
    by_cases hi : kindD d = "int"
    · refine ite1 (decide_eq_true (.inl hi)) ⟨_, rfl, _, _, _, _, _, rfl, .ty "bool", ty, kit_dat (by decide) kin, _, rfl, ?_⟩
      rw [show isNumD d = true by cases d <;> simp [kindD] at hi <;> rfl] at q
      rw [hi]
      exact q
    · by_cases hb : kindD d = "bool"
      · refine ite1 (decide_eq_true (.inr hb)) ⟨_, rfl, _, _, _, _, _, rfl, .ty "bool", ty, kit_dat (by decide) kin, _, rfl, ?_⟩
        rw [show isNumD d = false by cases d <;> first | rfl | exact absurd rfl hi] at q
        rw [hb]
        exact q
      · refine ite0 (decide_eq_false (fun h => h.elim hi hb)) ?_
        rw [show isNumD d = false by cases d <;> first | rfl | exact absurd rfl hi] at q
        exact q
/-- what an item of a tuple is -/
theorem dp_tup {K : PySem.W.Frag} {H : Hp} {v : V} {ds : List PyData} (h : Dp K H v (.tuple ds)) : ∃ (a : Addr) (xs : List V), v = .ref a ∧ SqT K H a xs ∧ DpAll K H xs ds := by
  cases h with
  | tup h1 h2 => exact ⟨_, _, rfl, h1, h2⟩
/-- is_calc: depth n at most -/
def spCalc (K : PySem.W.Frag) (n : Nat) : Sp := fun vs H Q _ => ∃ v d, vs = [v] ∧ Dp K H v d ∧ okD d = true ∧ d.depth ≤ n ∧ ∀ H', Same H H' → Q (.bl (isCalcD d)) H'
theorem ok_iscalc (T : Tp K w mg) : ∀ n, FnOk P w K mg base CX0 (n + 1 + 1) T.f_iscalc T.fd_iscalc ["thing"] (spCalc K n) := rec_fn fun n ih => by
  refine T.D_iscalc.F.ok sc_iscalc (fun vs H Q E h => ?_) (fun cdv A outer s H vs Q E hr h => ?_)
  · obtain ⟨v, d, rfl, _⟩ := h
    rfl
  · obtain ⟨v, d, rfl, hd, hk, hdep, q⟩ := h
    refine ⟨_, (pss_cons (ps_if (pt_not (pt_val (pe_callB call_isi (by rfl) T.isinstance (by decide +kernel) (pa_cons (pv 0) (pa_cons (pe_bltn (v := .ty "tuple") (by rfl) T.tuple (by decide +kernel) rfl) pa_nil)))))
  (pss_one (ps_ret (pe_or (pcall T.D_isnum (ok_isnum T) (hr.mono (by omega)) (by rfl) (pa_cons (pv 0) pa_nil)) (pe_one (pcall T.D_isname (ok_isname T) (hr.mono (by omega)) (by rfl) (pa_cons (pv 0) pa_nil))))))
  pss_nil)
  (pss_cons (ps_if (PW.pt (pw_or (pt_cmpR op_ne (pe_callB call_len_seq (by rfl) T.len PySem.boot_len (pa_cons (pv 0) pa_nil)) pe_int (nomark _)) (pw_or (pt_not (pt_val (pe_callB call_isi (by rfl) T.isinstance (by decide +kernel) (pa_cons (pe_ix ix_tup (pv 0) pe_int (fun _ _ => rfl)) (pa_cons (pe_bltn (v := .ty "str") (by rfl) T.str (by decide +kernel) rfl) pa_nil))))) (pw_or1 (pt_cmpR op_notIn_seq (pe_ix ix_tup (pv 0) pe_int (fun _ _ => rfl)) (pe_gr (by rfl) T.c_KINDS) (by rfl))))))
  (pss_one (ps_ret pe_bl))
  pss_nil)
  (pss_one (ps_ret (pe_and (pcall T.D_iscalc ih (hr.mono (by omega)) (by rfl) (pa_cons (pe_ix ix_tup (pv 0) pe_int (fun _ _ => rfl)) pa_nil)) (pe_one (pcall T.D_iscalc ih (hr.mono (by omega)) (by rfl) (pa_cons (pe_ix ix_tup (pv 0) pe_int (fun _ _ => rfl)) pa_nil)))))))), ?_⟩
    obtain ⟨ty, kin⟩ := dp_ty hd
    refine ⟨_, rfl, _, _, _, _, _, rfl, .ty "tuple", ty, kit_dat (by decide) kin, _, rfl, ?_⟩
    by_cases ht : kindD d = "tuple"
    · refine ite0 (by rw [decide_eq_true ht]; rfl) ?_
      obtain ⟨ds, rfl⟩ : ∃ ds, d = .tuple ds := by cases d <;> simp [kindD] at ht ⊢
      obtain ⟨a, xs, rfl, hx, hall⟩ := dp_tup hd
      have hl := dpAll_len hall
      refine ⟨_, rfl, _, _, rfl, .inr hx, rfl, _, rfl, ?_⟩
      by_cases h3 : ds.length = 3
      · refine ite0 (by rw [hl, h3]; rfl) ?_
        obtain ⟨d1, d2, d3, rfl⟩ : ∃ d1 d2 d3, ds = [d1, d2, d3] := by
          match ds, h3 with
          | [d1, d2, d3], _ => exact ⟨_, _, _, rfl⟩
        cases hall with
        | cons p1 hall =>
        cases hall with
        | cons p2 hall =>
        cases hall with
        | cons p3 hall =>
        cases hall
        rename_i v1 v2 v3
        have ok3 : okD d1 = true ∧ okD d2 = true ∧ okD d3 = true := by
          simp only [okD, okAll, Bool.and_eq_true] at hk
          exact ⟨hk.2.1, hk.2.2.1, hk.2.2.2.1⟩
        have dep3 : d2.depth + 1 ≤ n ∧ d3.depth + 1 ≤ n := by
          simp only [PyData.depth, PyData.depthAll] at hdep
          omega
        obtain ⟨ty1, kin1⟩ := dp_ty p1
        refine ⟨_, rfl, _, _, _, _, rfl, rfl, hx, atI_nat (j := 0) rfl, _, _, _, _, _, rfl, .ty "str", ty1, kit_dat (by decide) kin1, _, rfl, ?_⟩
        by_cases hs : kindD d1 = "str"
        · obtain ⟨k, rfl⟩ : ∃ k, d1 = .str k := by cases d1 <;> simp [kindD] at hs ⊢
          cases p1
          refine ite0 (by rw [decide_eq_true hs]; rfl) ?_
          refine ⟨_, rfl, _, _, _, _, rfl, rfl, hx, atI_nat (j := 0) rfl, _, _, rfl, .inr (T.t_KINDS H), rfl, rfl, _, rfl, ?_⟩
          have ein : (if true = true then !inV (.str k) [.str "sum", .str "minus", .str "less"] else inV (.str k) [.str "sum", .str "minus", .str "less"]) = !decide (k = "sum" ∨ k = "minus" ∨ k = "less") := by
            rw [if_pos rfl, kinds_in]
          by_cases hkd : k = "sum" ∨ k = "minus" ∨ k = "less"
          · refine ite0 (ein.trans (by rw [decide_eq_true hkd]; rfl)) ?_
            obtain ⟨m, rfl⟩ : ∃ m, n = m + 1 := ⟨n - 1, by omega⟩
            have ec : isCalcD (.tuple [.str k, d2, d3]) = (isCalcD d2 && isCalcD d3) := by show (decide _ && _) = _; rw [decide_eq_true hkd, Bool.true_and]
            rw [ec] at q
            refine ⟨_, rfl, _, _, _, _, rfl, rfl, hx, atI_nat (j := 1) rfl, v2, d2, rfl, p2, ok3.2.1, by omega, fun H1 s1 => ⟨_, rfl, ?_⟩⟩
            cases e2 : isCalcD d2 with
            | false => rw [e2] at q; exact iteF (q H1 s1)
            | true =>
              rw [e2] at q
              exact iteT ⟨_, rfl, _, _, _, _, rfl, rfl, s1.sqt hx, atI_nat (j := 2) rfl, v3, d3, rfl, s1.dp p3, ok3.2.2, by omega, fun H2 s2 => q H2 (s1.trans s2)⟩
          · refine ite1 (ein.trans (by rw [decide_eq_false hkd]; rfl)) ?_
            have h2 := q H (Same.refl H)
            rw [show isCalcD (.tuple [.str k, d2, d3]) = false by show (decide _ && _) = false; rw [decide_eq_false hkd]; rfl] at h2
            exact h2
        · refine ite1 (by rw [decide_eq_false hs]; rfl) ?_
          have h2 := q H (Same.refl H)
          rw [show isCalcD (.tuple [d1, d2, d3]) = false by
            show (isKindD d1 && _) = false
            rw [show isKindD d1 = false by cases d1 <;> first | rfl | exact absurd rfl hs]
            rfl] at h2
          exact h2
      · refine ite1 (by rw [hl]; simp; omega) ?_
        have e : isCalcD (.tuple ds) = false := by
          match ds, h3 with
          | [], _ => rfl
          | [_], _ => rfl
          | [_, _], _ => rfl
          | _ :: _ :: _ :: _ :: _, _ => rfl
        have h2 := q H (Same.refl H)
        rw [e] at h2
        exact h2
    · refine ite1 (by rw [decide_eq_false ht]; rfl) ?_
      have ec : isCalcD d = (isNumD d || isNameD d) := by
        cases d <;> first | rfl | exact absurd rfl ht
      rw [ec] at q
      refine ⟨_, rfl, v, d, rfl, hd, hk, fun H1 s1 => ⟨_, rfl, ?_⟩⟩
      cases e1 : isNumD d with
      | true => rw [e1] at q; exact iteT (q H1 s1)
      | false => rw [e1] at q; exact iteF ⟨_, rfl, v, d, rfl, s1.dp hd, hk, fun H2 s2 => q H2 (s1.trans s2)⟩
end
end TP
namespace TP
open PySem PySem.Spec PyProof.Rows L2 HX HB HG HU HH HD HS
/-! ### the table of parts -/
def partsL : List (Str × List Str) := [("put", ["name", "calc"]), ("read", ["name", "cell"]), ("write", ["cell", "calc"]), ("tell", ["calc"]), ("send", ["channel", "calc"]), ("take", ["name", "channel"]), ("hold", ["lock", "body"]), ("rest", ["rest"]), ("nest", ["scope", "body"]),
  ("within", ["span", "scope", "body"]), ("start", ["home", "body"]), ("off", ["entered"]), ("shield", ["body"]), ("fail", ["name"]), ("catch", ["body", "name", "body"]), ("try", ["body", "body"]), ("if", ["calc", "body", "body"]), ("often", ["times", "body"])]
def kindsOf (w : Str) : Option (List Str) := (partsL.find? fun q => decide (q.1 = w)).map (·.2)
theorem kindsOf_mem {w : Str} {ks : List Str} (h : kindsOf w = some ks) : (w, ks) ∈ partsL := by
  unfold kindsOf at h
  cases e : partsL.find? fun q => decide (q.1 = w) with
  | none => rw [e] at h; cases h
  | some q =>
    rw [e] at h
    cases h
    have h1 := List.mem_of_find?_eq_some e
    have h2 : q.1 = w := by have := List.find?_some e; simpa using this
    rw [← h2]
    exact h1
theorem kinds_len {w : Str} {ks : List Str} (h : kindsOf w = some ks) : ks.length ≤ 3 := by
  have h1 := kindsOf_mem h
  have : ∀ q ∈ partsL, q.2.length ≤ 3 := by decide
  exact this _ h1
def bodiesV {α : Type} : List Str → List α → List α
  | k :: ks, x :: xs => if k = "body" then x :: bodiesV ks xs else bodiesV ks xs
  | _, _ => []
theorem bodiesV_snoc {α : Type} (k : Str) (x : α) : ∀ (ks : List Str) (xs : List α), ks.length = xs.length → bodiesV (ks ++ [k]) (xs ++ [x]) = bodiesV ks xs ++ (if k = "body" then [x] else [])
  | [], [], _ => by
    simp only [List.nil_append, bodiesV]
  | a :: ks, b :: xs, h => by
    have ih := bodiesV_snoc k x ks xs (Nat.succ.inj h)
    simp only [List.cons_append, bodiesV, ih]
    split <;> rfl
theorem bodiesV_len {α : Type} : ∀ (ks : List Str) (xs : List α), (bodiesV ks xs).length ≤ ks.length
  | [], _ => Nat.zero_le _
  | k :: ks, [] => Nat.zero_le _
  | k :: ks, x :: xs => by
    have ih := bodiesV_len ks xs
    simp only [bodiesV, List.length_cons]
    split
    · rw [List.length_cons]; omega
    · omega
theorem bodiesV_cut {α : Type} : ∀ (ks : List Str) (xs : List α), bodiesV (ks.take (min ks.length xs.length)) (xs.take (min ks.length xs.length)) = bodiesV ks xs
  | [], xs => by simp [bodiesV]
  | k :: ks, [] => by simp [bodiesV]
  | k :: ks, x :: xs => by
    have ih := bodiesV_cut ks xs
    rw [List.length_cons, List.length_cons, show min (ks.length + 1) (xs.length + 1) = min ks.length xs.length + 1 by omega, List.take_succ_cons, List.take_succ_cons]
    simp only [bodiesV, ih]
theorem cut1 (xs : List V) : cutV xs (some 1) none = xs.drop 1 := by
  unfold cutV
  rw [show HT.sIx xs.length 0 (some 1) = min 1 xs.length from HT.sIx_nat xs.length 0 1, HT.sIx_none]
  cases xs with
  | nil => rfl
  | cons x r =>
    rw [show min 1 (x :: r).length = 1 by
      rw [List.length_cons]
      omega]
    show (List.take ((x :: r).length - 1) r) = r
    rw [List.length_cons, Nat.add_sub_cancel]
    exact List.take_length
section
variable {P : Program} {w : World} {K : PySem.W.Frag} {mg : Str → Option Value} {base : Heap}
def partsV : List (Str × List V) := partsL.map fun q => (q.1, q.2.map V.str)
theorem Tp.parts (T : Tp K w mg) : DT K w T.a_PARTS partsV := T.d_PARTS
theorem partsV_mem {z : Str} {ks : List Str} (h : kindsOf z = some ks) : (z, ks.map V.str) ∈ partsV := List.mem_map.mpr ⟨(z, ks), kindsOf_mem h, rfl⟩
def spBodies (K : PySem.W.Frag) : Sp := fun vs H Q _ => ∃ (a : Addr) (z : Str) (ks : List Str) (xs : List V), vs = [.ref a] ∧ SqT K H a (.str z :: xs) ∧ kindsOf z = some ks ∧ ∀ (p : Addr) (H' : Hp), H p = none → Same H H' → H' p = some (.lst (bodiesV ks xs)) → Q (.ref p) H'
theorem ok_bodies (T : Tp K w mg) : FnOk P w K mg base CX0 1 T.f_bodies T.fd_bodies ["row"] (spBodies K) := by
  refine T.D_bodies.F.ok sc_bodies (fun vs H Q E h => ?_) (fun cdv A outer s H vs Q E hr h => ?_)
  · obtain ⟨a, z, ks, xs, rfl, _⟩ := h
    rfl
  · obtain ⟨a, z, ks, xs, rfl, hx, hz, q⟩ := h
    refine ⟨_, (pss_one (ps_ret (pe_lc (own := [("kind", 1), ("part", 2)]) (g := gTup K 2 (gCons (gName 1) (gCons (gName 2) gNil))) (by rfl) sc_bodies.nd (RZ.pi_zipA (by rfl) T.zip (pa_cons (pe_ix (HD.ix_dt T.d_PARTS) (pe_gr (by rfl) T.c_PARTS) (pe_ix ix_tup (pv 0) pe_int (fun _ _ => rfl)) (fun _ _ => rfl)) (pa_cons (pe_slice sl_tup (pv 0) (po_some pe_int) po_none) pa_nil))) (blkOk_by (own := [("kind", 1), ("part", 2)]) (N := ["row", "kind", "part"]) (sc := defScope s_bodies) (by decide +kernel)) (fun _ _ _ _ _ => (pg_tup rfl (pgs_cons (pg_name (i := 1) sc_bodies.nd rfl (.inl rfl)) (pgs_cons (pg_name (i := 2) sc_bodies.nd rfl (.inl rfl)) pgs_nil)))) (fun _ _ _ _ _ => (pts_one (pt_cmpR op_eq (pv 1) pe_str (nomark _)))) (fun _ _ _ _ _ => (pv 2))))), ?_⟩
    refine ⟨_, rfl, _, _, _, _, rfl, rfl, hx, atI_nat (j := 0) rfl, _, partsV_mem hz, rfl, rfl, fun t ht => ?_⟩
    refine ⟨_, rfl, 1, rfl, a, _, rfl, hx, ?_, fun p np => ?_⟩
    · rw [show HT.sIx (V.str z :: xs).length 0 (some 1) = min 1 (V.str z :: xs).length from HT.sIx_nat _ 0 1, List.length_cons]
      omega
    rw [cut1]
    have s1 := same_upd (o := .tup ((V.str z :: xs).drop 1)) np
    have hp : (upd H p (.tup ((V.str z :: xs).drop 1))) p = some (.tup xs) := upd_same
    generalize upd H p (.tup ((V.str z :: xs).drop 1)) = H1 at s1 hp ⊢
    refine ⟨t, p, _, _, rfl, .inr ⟨ht H1, stt hp, fun L nL => ?_⟩⟩
    refine lc_it (HE.walk_zipT (xs := ks.map V.str) (ys := xs) (n := min ks.length xs.length) (by rw [List.length_map])) (fun i H2 => Same H1 H2 ∧ H2 L = some (.lst (bodiesV (ks.take i) (xs.take i)))) ⟨same_upd nL, upd_same⟩ (fun i H2 _ g => ⟨ht H2, stt (g.1 _ _ hp)⟩) ?_ ?_
    · rintro i x H2 H3 hi ⟨sm, hL⟩ ⟨Tt, x1, x2, rfl, nT, rfl, g1, g2⟩
      have h1 : i < ks.length := by omega
      have h2 : i < xs.length := by omega
      dsimp only at g1 g2
      rw [List.getElem?_map, List.getElem?_eq_getElem h1] at g1
      rw [List.getElem?_eq_getElem h2] at g2
      cases g1
      cases g2
      have smT := same_upd (o := .tup [.str ks[i], xs[i]]) nT
      have e : bodiesV (ks.take (i + 1)) (xs.take (i + 1)) = bodiesV (ks.take i) (xs.take i) ++ (if ks[i] = "body" then [xs[i]] else []) := by
        rw [List.take_add_one, List.take_add_one, List.getElem?_eq_getElem h1, List.getElem?_eq_getElem h2]
        exact bodiesV_snoc _ _ _ _ (by rw [List.length_take, List.length_take]; omega)
      refine ⟨Tt, _, rfl, stt upd_same, rfl, _, _, rfl, _, _, rfl, rfl, rfl, _, rfl, rfl, _, rfl, ite2 (fun hb => ?_) (fun hb => ?_)⟩
      · have hb : ks[i] = "body" := V.str.inj (of_decide_eq_true hb)
        refine ⟨_, rfl, _, smT _ _ hL, small1000 (Nat.le_trans (bodiesV_len _ _) (by rw [List.length_take]; have := kinds_len hz; omega)), (sm.trans smT).own nL, ?_⟩
        rw [upd_same, e, if_pos hb]
      · have hb : ks[i] ≠ "body" := fun z => hb (decide_eq_true (by rw [z]))
        refine ⟨sm.trans smT, ?_⟩
        rw [e, if_neg hb, List.append_nil]
        exact smT _ _ hL
    · rintro H2 ⟨sm, hL⟩
      rw [bodiesV_cut] at hL
      exact q L H2 (s1.free nL) (s1.trans sm) hL
end
end TP
namespace TP
open PySem PySem.Spec PyProof.Rows L2 HX HB HG HU HH HD HS
/-- what is known: the names of the cells, locks, channels -/
structure Kn (K : PySem.W.Frag) (H : Hp) (kn : Addr) (cs ls hs : List Str) : Prop where
  ex : ∃ c l h : Addr, H kn = some (.dK [(Sum.inr "cell", .ref c), (Sum.inr "lock", .ref l), (Sum.inr "channel", .ref h)]) ∧ SqT K H c (cs.map V.str) ∧ SqT K H l (ls.map V.str) ∧ SqT K H h (hs.map V.str)
/-- what is around: names and words -/
structure Ar (K : PySem.W.Frag) (H : Hp) (ar : Addr) (ps : List (Str × Str)) : Prop where
  ex : ∃ ts : List Addr, SqT K H ar (ts.map V.ref) ∧ Paired (fun t (p : Str × Str) => SqT K H t [.str p.1, .str p.2]) ts ps
  few : ps.length ≤ 1000
theorem Kn.same {K : PySem.W.Frag} {H H' : Hp} {kn : Addr} {cs ls hs : List Str} (k : Kn K H kn cs ls hs) (s : Same H H') : Kn K H' kn cs ls hs := let ⟨c, l, h, e1, e2, e3, e4⟩ := k.ex; ⟨c, l, h, s _ _ e1, s.sqt e2, s.sqt e3, s.sqt e4⟩
theorem Ar.same {K : PySem.W.Frag} {H H' : Hp} {ar : Addr} {ps : List (Str × Str)} (k : Ar K H ar ps) (s : Same H H') : Ar K H' ar ps := ⟨let ⟨ts, e1, e2⟩ := k.ex; ⟨ts, s.sqt e1, paired_imp (fun _ _ h => s.sqt h) e2⟩, k.few⟩
def rangesL : List (Str × (Int × Int)) := [("rest", (0, 9)), ("span", (1, 9)), ("times", (0, 3))]
def rangesV : List (Str × List V) := rangesL.map fun q => (q.1, [V.int q.2.1, V.int q.2.2])
def rangeOf (k : Str) : Option (Int × Int) := (rangesL.find? fun q => decide (q.1 = k)).map (·.2)
theorem rangeOf_mem {k : Str} {r : Int × Int} (h : rangeOf k = some r) : (k, r) ∈ rangesL := by
  unfold rangeOf at h
  cases e : rangesL.find? fun q => decide (q.1 = k) with
  | none => rw [e] at h; cases h
  | some q =>
    rw [e] at h
    cases h
    have h2 : q.1 = k := by have := List.find?_some e; simpa using this
    rw [← h2]
    exact List.mem_of_find?_eq_some e
theorem rangeOf_none {k : Str} (h : rangeOf k = none) : k ∉ rangesV.map (·.1) := by
  intro hm
  obtain ⟨q, hq, rfl⟩ := List.mem_map.mp hm
  obtain ⟨p, hp, rfl⟩ := List.mem_map.mp hq
  unfold rangeOf at h
  cases e : rangesL.find? fun q => decide (q.1 = p.1) with
  | none => exact absurd (List.find?_eq_none.mp e p hp) (by simp)
  | some x => rw [show (fun q : Str × (Int × Int) => decide (q.1 = (p.1, [V.int p.2.1, V.int p.2.2]).1)) = fun q => decide (q.1 = p.1) from rfl, e] at h; cases h
def lookW (ps : List (Str × Str)) (z : Str) : Option Str := lookS (mergeZ [] ps) z
def inRange (d : PyData) (r : Int × Int) : Bool := match d with
  | .int i => decide (r.1 ≤ i) && decide (i ≤ r.2)
  | _ => false
def namePart (kind z : Str) (cs ls hs : List Str) (ps : List (Str × Str)) : Bool :=
  if kind = "cell" then decide (z ∈ cs) else if kind = "lock" then decide (z ∈ ls) else if kind = "channel" then decide (z ∈ hs)
  else if kind = "home" then decide (lookW ps z = some ("nest" : Str))
  else decide (kind = "name") || decide ((lookW ps z).isSome = decide (kind = "entered"))
def strPart (d : PyData) (f : Str → Bool) : Bool := match d with
  | .str z => isNameL z && f z
  | _ => false
def isPartD (cs ls hs : List Str) (ps : List (Str × Str)) (kind : Str) (d : PyData) : Bool :=
  if kind = "calc" then isCalcD d else if kind = "body" then decide (kindD d = "tuple")
  else match rangeOf kind with
    | some r => inRange d r
    | none => strPart d fun z => namePart kind z cs ls hs ps
theorem inV_strs (z : Str) : ∀ zs : List Str, inV (.str z) (zs.map V.str) = decide (z ∈ zs)
  | [] => by simp [inV]
  | y :: zs => by
    have ih := inV_strs z zs
    show (eqV (.str y) (.str z) || inV (.str z) (zs.map V.str)) = _
    rw [ih]
    simp only [eqV, List.mem_cons, Bool.decide_or]
    congr 1
    by_cases h : z = y
    · subst h; simp
    · rw [decide_eq_false h]; exact beq_eq_false_iff_ne.mpr (Ne.symm h)
theorem flat_strs : ∀ zs : List Str, (zs.map V.str).all flatV = true
  | [] => rfl
  | z :: zs => by rw [List.map_cons, List.all_cons, flat_strs zs]; rfl
theorem es_str (y z : Str) : decide (V.str y = V.str z) = decide (y = z) := decide_eq_decide.mpr ⟨fun h => V.str.inj h, fun h => congrArg V.str h⟩
section
variable {P : Program} {w : World} {K : PySem.W.Frag} {mg : Str → Option Value} {base : Heap}
theorem Tp.ranges (T : Tp K w mg) : DT K w T.a_RANGES rangesV := T.d_RANGES
def spPart (K : PySem.W.Frag) (n : Nat) : Sp := fun vs H Q _ => ∃ (kind : Str) (v : V) (d : PyData) (kn ar : Addr) (cs ls hs : List Str) (ps : List (Str × Str)), vs = [.str kind, v, .ref kn, .ref ar] ∧ Dp K H v d ∧ okD d = true ∧ d.depth ≤ n ∧ Kn K H kn cs ls hs ∧ Ar K H ar ps ∧
  ∀ H', Same H H' → Q (.bl (isPartD cs ls hs ps kind d)) H'
theorem ok_ispart (T : Tp K w mg) (n : Nat) : FnOk P w K mg base CX0 (n + 1 + 1 + 1) T.f_ispart T.fd_ispart ["kind", "thing", "known", "around"] (spPart K n) := by
  refine T.D_ispart.F.ok sc_ispart (fun vs H Q E h => ?_) (fun cdv A outer s H vs Q E hr h => ?_)
  · obtain ⟨kind, v, d, kn, ar, cs, ls, hs, ps, rfl, _⟩ := h
    rfl
  · obtain ⟨kind, v, d, kn, ar, cs, ls, hs, ps, rfl, hd, hk, hdep, hkn, har, q⟩ := h
    have hu := hu_of hr
    refine ⟨_, (pss_cons (ps_if (pt_cmpR op_eq (pv 0) pe_str (nomark _))
  (pss_one (ps_ret (pcall T.D_iscalc (ok_iscalc T n) (hr.mono (by omega)) (by rfl) (pa_cons (pv 1) pa_nil))))
  pss_nil)
  (pss_cons (ps_if (pt_cmpR op_eq (pv 0) pe_str (nomark _))
  (pss_one (ps_ret (pe_callB call_isi (by rfl) T.isinstance (by decide +kernel) (pa_cons (pv 1) (pa_cons (pe_bltn (v := .ty "tuple") (by rfl) T.tuple (by decide +kernel) rfl) pa_nil)))))
  pss_nil)
  (pss_cons (ps_if (pt_cmpR (HD.op_in_dt T.d_RANGES) (pv 0) (pe_gr (by rfl) T.c_RANGES) (by rfl))
  (pss_cons (ps_asg (pe_ix (HD.ix_dt T.d_RANGES) (pe_gr (by rfl) T.c_RANGES) (pv 0) (fun _ _ => rfl)) (pg_tup rfl (pgs_cons (pg_name (i := 4) sc_ispart.nd rfl (.inl rfl)) (pgs_cons (pg_name (i := 5) sc_ispart.nd rfl (.inl rfl)) pgs_nil))))
  (pss_one (ps_ret (pe_and (pcall T.D_isnum (ok_isnum T) (hr.mono (by omega)) (by rfl) (pa_cons (pv 1) pa_nil)) (pe_one (pe_chain op_le op_le (pv 4) (pv 1) (pv 5)))))))
  pss_nil)
  (pss_cons (ps_if (pt_not (pt_val (pcall T.D_isname (ok_isname T) (hr.mono (by omega)) (by rfl) (pa_cons (pv 1) pa_nil))))
  (pss_one (ps_ret pe_bl))
  pss_nil)
  (pss_cons (ps_if (pt_cmp (pc_din hu (pv 0) (pv 2)))
  (pss_one (ps_ret (pe_cmpR op_in_seq (pv 1) (pe_dget hu (pv 2) (pv 0) (fun _ _ => rfl)) (by rfl))))
  pss_nil)
  (pss_cons (HD.ps_setDc (i := 6) (own := [("name", 7), ("word", 8)]) (g := gTup K 2 (gCons (gName 7) (gCons (gName 8) gNil))) (by rfl) sc_ispart.nd rfl rfl (HD.sw_dict rfl rfl rfl (by decide +kernel)) (pi_tup (pv 3)) (blkOk_by (own := [("name", 7), ("word", 8)]) (N := ["kind", "thing", "known", "around", "least", "most", "words", "name", "word"]) (sc := defScope s_ispart) (by decide +kernel)) (fun _ _ _ _ _ => (pg_tup rfl (pgs_cons (pg_name (i := 7) sc_ispart.nd rfl (.inl rfl)) (pgs_cons (pg_name (i := 8) sc_ispart.nd rfl (.inl rfl)) pgs_nil)))) (fun _ _ _ _ _ => pts_nil) (fun _ _ _ _ _ => (pv 7)) (fun _ _ _ _ _ => (pv 8)))
  (pss_cons (ps_if (pt_cmpR op_eq (pv 0) pe_str (nomark _))
  (pss_one (ps_ret (pe_cmpR op_eq (pe_dget1 hu (pv 6) (pv 1) ⟨by rfl, by rfl, by rfl, by rfl⟩) pe_str (nomark _))))
  pss_nil)
  (pss_one (ps_ret (pe_or (pe_cmpR op_eq (pv 0) pe_str (nomark _)) (pe_one (pe_cmpR op_eq (pe_cmp (pc_din hu (pv 1) (pv 6))) (pe_cmpR op_eq (pv 0) pe_str (nomark _)) (nomark _))))))))))))), ?_⟩
    obtain ⟨ty, kin⟩ := dp_ty hd
    refine ⟨_, rfl, rfl, _, rfl, ?_⟩
    rw [es_str]
    refine ite2 (fun h1 => ?_) (fun h1 => ?_)
    · have e : isPartD cs ls hs ps kind d = isCalcD d := by unfold isPartD; rw [if_pos (of_decide_eq_true h1)]
      rw [e] at q
      exact ⟨_, rfl, v, d, rfl, hd, hk, hdep, q⟩
    have n1 : kind ≠ "calc" := fun z => h1 (decide_eq_true z)
    refine ⟨_, rfl, rfl, _, rfl, ?_⟩
    rw [es_str]
    refine ite2 (fun h2 => ?_) (fun h2 => ?_)
    · have e : isPartD cs ls hs ps kind d = decide (kindD d = "tuple") := by unfold isPartD; rw [if_neg n1, if_pos (of_decide_eq_true h2)]
      rw [e] at q
      exact ⟨_, rfl, _, _, _, _, _, rfl, .ty "tuple", ty, kit_dat (by decide) kin, q H (Same.refl H)⟩
    have n2 : kind ≠ "body" := fun z => h2 (decide_eq_true z)
    have up : isPartD cs ls hs ps kind d = match rangeOf kind with
        | some r => inRange d r
        | none => strPart d fun z => namePart kind z cs ls hs ps := by unfold isPartD; rw [if_neg n1, if_neg n2]
    rw [up] at q
    cases hr : rangeOf kind with
    | some r =>
      rw [hr] at q
      dsimp only at q
      have hm := rangeOf_mem hr
      have hmV : (kind, [V.int r.1, V.int r.2]) ∈ rangesV := List.mem_map.mpr ⟨(kind, r), hm, rfl⟩
      refine ⟨_, rfl, kind, rfl, rfl, _, rfl, ite1 (show decide (kind ∈ rangesV.map (·.1)) = true from decide_eq_true (List.mem_map.mpr ⟨_, hmV, rfl⟩)) ?_⟩
      refine ⟨_, rfl, _, hmV, rfl, rfl, fun t ht => ⟨t, _, rfl, ht H, rfl, _, _, rfl, _, _, rfl, rfl, ?_⟩⟩
      refine ⟨_, rfl, v, d, rfl, hd, hk, fun H1 s1 => ⟨_, rfl, ?_⟩⟩
      by_cases hi : ∃ i, d = .int i
      · obtain ⟨i, rfl⟩ := hi
        cases hd
        refine iteT ⟨_, rfl, _, rfl, _, _, rfl, rfl, _, rfl, ?_⟩
        have q := q H1 s1
        refine ite2 (fun h => ?_) (fun h => ?_)
        · refine ⟨_, rfl, _, _, rfl, rfl, ?_⟩
          rw [show inRange (.int i) r = decide (i ≤ r.2) by show (decide _ && _) = _; rw [h, Bool.true_and]] at q
          exact q
        · rw [show inRange (.int i) r = false by show (decide _ && _) = _; rw [Bool.eq_false_iff.mpr h, Bool.false_and]] at q
          exact q
      · have e1 : isNumD d = false := by cases d <;> first | rfl | exact absurd ⟨_, rfl⟩ hi
        have e2 : inRange d r = false := by cases d <;> first | rfl | exact absurd ⟨_, rfl⟩ hi
        rw [e1]
        rw [e2] at q
        exact iteF (q H1 s1)
    | none =>
      rw [hr] at q
      dsimp only at q
      refine ⟨_, rfl, kind, rfl, rfl, _, rfl, ite0 (show decide (kind ∈ rangesV.map (·.1)) = false from decide_eq_false (rangeOf_none hr)) ?_⟩
      refine ⟨_, rfl, v, d, rfl, hd, hk, fun H1 s1 => ⟨_, rfl, ?_⟩⟩
      by_cases hn : isNameD d = true
      · obtain ⟨z, rfl⟩ : ∃ z, d = .str z := by cases d <;> first | exact ⟨_, rfl⟩ | cases hn
        cases hd
        refine ite0 (by rw [hn]; rfl) ?_
        have hn' : isNameL z = true := hn
        have q2 : ∀ H', Same H H' → Q (.bl (namePart kind z cs ls hs ps)) H' := fun H' s' => by
          have h := q H' s'
          rw [show (strPart (.str z) fun z => namePart kind z cs ls hs ps) = namePart kind z cs ls hs ps by show (isNameL z && _) = _; rw [hn', Bool.true_and]] at h
          exact h
        clear q up
        obtain ⟨c, l, h, k1, k2, k3, k4⟩ := (hkn.same s1).ex
        have g := DGet.k (k := Sum.inr kind) k1
        have seq : ∀ (a : Addr) (xs : List Str), SqT K H1 a (xs.map V.str) → Q (.bl (decide (z ∈ xs))) H1 → rIn K false (.str z) (.ref a) H1 Q := fun a xs h1 h2 => ⟨a, _, rfl, .inr h1, rfl, flat_strs xs, by rw [if_neg Bool.false_ne_true, inV_strs]; exact h2⟩
        refine ⟨_, rfl, _, rfl, kn, _, rfl, g, _, rfl, ?_⟩
        by_cases c1 : kind = "cell"
        · subst c1
          refine iteT ⟨_, rfl, _, rfl, _, rfl, kn, _, rfl, g, seq c cs k2 ?_⟩
          exact q2 H1 s1
        by_cases c2 : kind = "lock"
        · subst c2
          refine iteT ⟨_, rfl, _, rfl, _, rfl, kn, _, rfl, g, seq l ls k3 ?_⟩
          exact q2 H1 s1
        by_cases c3 : kind = "channel"
        · subst c3
          refine iteT ⟨_, rfl, _, rfl, _, rfl, kn, _, rfl, g, seq h hs k4 ?_⟩
          exact q2 H1 s1
        have miss : valV [((Sum.inr "cell" : Key), V.ref c), (Sum.inr "lock", .ref l), (Sum.inr "channel", .ref h)] (Sum.inr kind : Key) = none := by
          unfold valV
          simp only [List.find?_cons, key_rr]
          rw [decide_eq_false (Ne.symm c1), decide_eq_false (Ne.symm c2), decide_eq_false (Ne.symm c3)]
          rfl
        rw [miss]
        refine iteF ?_
        have en : namePart kind z cs ls hs ps = if kind = "home" then decide (lookW ps z = some ("nest" : Str)) else decide (kind = "name") || decide ((lookW ps z).isSome = decide (kind = "entered")) := by
          unfold namePart
          rw [if_neg c1, if_neg c2, if_neg c3]
        rw [en] at q2
        -- the words
        obtain ⟨ts, a1, a2⟩ := (har.same s1).ex
        have tl : ts.length = ps.length := a2.length
        refine ⟨_, rfl, ar, rfl, ⟨_, a1⟩, fun D nD => dc_tup (xs := ts.map V.ref) (fun i H2 => Same H1 H2 ∧ H2 D = some (.dK (dz (mergeZ [] (ps.take i))))) ⟨same_upd nD, upd_same⟩ (fun i H2 _ g => g.1.sqt a1) ?_ ?_⟩
        · rintro i x H2 hx ⟨sm, hD⟩
          have hi : i < ts.length := by
            have := (List.getElem?_eq_some_iff.mp hx).1
            rwa [List.length_map] at this
          rw [List.getElem?_map, List.getElem?_eq_getElem hi] at hx
          cases hx
          obtain ⟨p, e1, e2⟩ := paired_at a2 (List.getElem?_eq_getElem hi)
          have tk : ps.take (i + 1) = ps.take i ++ [p] := by rw [List.take_add_one, e1]; rfl
          refine ⟨_, _, rfl, sm.sqt e2, rfl, _, _, rfl, _, _, rfl, rfl, rfl, ?_⟩
          refine ⟨_, rfl, _, rfl, _, Sum.inr p.1, rfl, hD, ?_, sm.own nD, ?_⟩
          · rw [dz, List.length_map]
            refine Evl.sz_lt (Nat.lt_of_le_of_lt (mergeZ_len _ _) ?_)
            have := har.few
            rw [List.length_nil, List.length_take]
            omega
          · rw [upd_same, putZ_dz, tk]
            unfold mergeZ
            rw [List.foldl_append]
            rfl
        · rintro H2 ⟨sm, hD⟩
          rw [List.length_map, tl, List.take_length] at hD
          have gz := DGet.k (k := Sum.inr z) hD
          rw [lookS_val] at gz
          refine ⟨_, rfl, rfl, _, rfl, ?_⟩
          rw [es_str]
          refine ite2 (fun hh => ?_) (fun hh => ?_)
          · rw [if_pos (of_decide_eq_true hh)] at q2
            refine ⟨_, rfl, D, rfl, .inl ⟨_, .inl hD⟩, _, rfl, _, gz, ?_⟩
            have q3 := q2 H2 (s1.trans sm)
            unfold lookW at q3
            cases e : lookS (mergeZ [] ps) z with
            | none => rw [e] at q3; exact ⟨rfl, q3⟩
            | some y =>
              rw [e] at q3
              refine ⟨rfl, ?_⟩
              rw [show decide (some y = some ("nest" : Str)) = decide (y = "nest") from decide_eq_decide.mpr ⟨fun h => Option.some.inj h, fun h => congrArg some h⟩] at q3
              show Q (V.bl (decide (V.str y = V.str "nest"))) H2
              rw [es_str]
              exact q3
          · rw [if_neg (fun e => hh (decide_eq_true e))] at q2
            have q3 := q2 H2 (s1.trans sm)
            refine ⟨_, rfl, rfl, _, rfl, ?_⟩
            rw [es_str]
            refine ite2 (fun h5 => ?_) (fun h5 => ?_)
            · rw [h5] at q3; exact q3
            · rw [Bool.eq_false_iff.mpr h5, Bool.false_or] at q3
              refine ⟨_, rfl, _, rfl, D, _, rfl, gz, _, rfl, rfl, rfl, ?_⟩
              rw [es_str, Option.isSome_map]
              unfold lookW at q3
              have eb : ∀ a b : Bool, decide (V.bl a = V.bl b) = decide (a = b) := fun a b => by cases a <;> cases b <;> rfl
              rw [eb]
              exact q3
      · have e1 : isNameD d = false := Bool.eq_false_iff.mpr hn
        refine ite1 (by rw [e1]; rfl) ?_
        have q := q H1 s1
        have e2 : (strPart d fun z => namePart kind z cs ls hs ps) = false := by
          cases d <;> first | rfl | (show (isNameL _ && _) = false; rw [show isNameL _ = false from e1]; rfl)
        rw [e2] at q
        exact q
end
end TP
namespace TP
open PySem PySem.Spec PyProof.Rows L2 HX HB HG HU HH HD HS
/-! ### rows -/
def isRowD (cs ls hs : List Str) (ps : List (Str × Str)) : PyData → Bool
  | .tuple (.str z :: xs) => match kindsOf z with
    | some ks => decide (xs.length = ks.length) && (ks.zip xs).all fun q => isPartD cs ls hs ps q.1 q.2
    | none => false
  | _ => false
theorem dpAll_at {K : PySem.W.Frag} {H : Hp} : ∀ {xs : List V} {ds : List PyData}, DpAll K H xs ds → ∀ {i : Nat} (h1 : i < xs.length) (h2 : i < ds.length), Dp K H xs[i] ds[i]
  | _, _, .cons p t, 0, _, _ => p
  | _, _, .cons p t, i + 1, h1, h2 => dpAll_at t (Nat.lt_of_succ_lt_succ h1) (Nat.lt_of_succ_lt_succ h2)
theorem depthAll_mem : ∀ {ds : List PyData} {d : PyData}, d ∈ ds → d.depth ≤ PyData.depthAll ds
  | x :: xs, d, h => by
    simp only [PyData.depthAll]
    rcases List.mem_cons.mp h with rfl | h
    · omega
    · have := depthAll_mem h; omega
theorem partsV_key (z : Str) : decide (z ∈ partsV.map (·.1)) = (kindsOf z).isSome := by
  unfold kindsOf partsV
  rw [List.map_map, Option.isSome_map]
  cases e : partsL.find? fun q => decide (q.1 = z) with
  | none =>
    refine decide_eq_false fun h => ?_
    obtain ⟨q, hq, rfl⟩ := List.mem_map.mp h
    exact absurd (List.find?_eq_none.mp e q hq) (by simp)
  | some q =>
    have h2 : q.1 = z := by have := List.find?_some e; simpa using this
    exact decide_eq_true (List.mem_map.mpr ⟨q, List.mem_of_find?_eq_some e, h2⟩)
section
variable {P : Program} {w : World} {K : PySem.W.Frag} {mg : Str → Option Value} {base : Heap}
def spRow (K : PySem.W.Frag) (n : Nat) : Sp := fun vs H Q _ => ∃ (v : V) (d : PyData) (kn ar : Addr) (cs ls hs : List Str) (ps : List (Str × Str)), vs = [v, .ref kn, .ref ar] ∧ Dp K H v d ∧ okD d = true ∧ SeqAt.shaped d = true ∧ d.depth ≤ n ∧ Kn K H kn cs ls hs ∧ Ar K H ar ps ∧
  ∀ H', Same H H' → Q (.bl (isRowD cs ls hs ps d)) H'
theorem ok_isrow (T : Tp K w mg) (n : Nat) : FnOk P w K mg base CX0 (n + 1 + 1 + 1 + 1) T.f_isrow T.fd_isrow ["row", "known", "around"] (spRow K n) := by
  refine T.D_isrow.F.ok sc_isrow (fun vs H Q E h => ?_) (fun cdv A outer s H vs Q E hr h => ?_)
  · obtain ⟨v, d, kn, ar, cs, ls, hs, ps, rfl, _⟩ := h
    rfl
  · obtain ⟨v, d, kn, ar, cs, ls, hs, ps, rfl, hd, hk, hsh, hdep, hkn, har, q⟩ := h
    have hu := hu_of hr
    refine ⟨_, (pss_cons (ps_if (PW.pt (pw_or (pt_not (pt_val (pe_callB call_isi (by rfl) T.isinstance (by decide +kernel) (pa_cons (pv 0) (pa_cons (pe_bltn (v := .ty "tuple") (by rfl) T.tuple (by decide +kernel) rfl) pa_nil))))) (pw_or (pt_cmpR (op_eqD hr.units) (pv 0) (pe_tup pa_nil) (nomark _)) (pw_or (pt_not (pt_val (pe_callB call_isi (by rfl) T.isinstance (by decide +kernel) (pa_cons (pe_ix ix_tup (pv 0) pe_int (fun _ _ => rfl)) (pa_cons (pe_bltn (v := .ty "str") (by rfl) T.str (by decide +kernel) rfl) pa_nil))))) (pw_or1 (pt_cmpR (HD.op_notIn_dt T.d_PARTS) (pe_ix ix_tup (pv 0) pe_int (fun _ _ => rfl)) (pe_gr (by rfl) T.c_PARTS) (by rfl)))))))
  (pss_one (ps_ret pe_bl))
  pss_nil)
  (pss_cons (ps_asg (pv 0) (pg_star (n := 2) (i := 1) rfl (pgs_cons (pg_name (i := 3) sc_isrow.nd rfl (.inl rfl)) (pgs_star (pg_name (i := 4) sc_isrow.nd rfl (.inl rfl)) pgs_nil))))
  (pss_cons (ps_if (pt_cmpR op_ne (pe_callB call_len_seq (by rfl) T.len PySem.boot_len (pa_cons (pv 4) pa_nil)) (pe_callB call_len_seq (by rfl) T.len PySem.boot_len (pa_cons (pe_ix (HD.ix_dt T.d_PARTS) (pe_gr (by rfl) T.c_PARTS) (pv 3) (fun _ _ => rfl)) pa_nil)) (nomark _))
  (pss_one (ps_ret pe_bl))
  pss_nil)
  (pss_one (ps_ret (pe_callB (cr_all rfl) (by rfl) T.all (by decide +kernel) (pa_cons (pe_lc (own := [("kind", 5), ("part", 6)]) (g := gTup K 2 (gCons (gName 5) (gCons (gName 6) gNil))) (by rfl) sc_isrow.nd (HE.pi_zipTL (by rfl) T.zip (pa_cons (pe_ix (HD.ix_dt T.d_PARTS) (pe_gr (by rfl) T.c_PARTS) (pv 3) (fun _ _ => rfl)) (pa_cons (pv 4) pa_nil))) (blkOk_by (own := [("kind", 5), ("part", 6)]) (N := ["row", "known", "around", "word", "parts", "kind", "part"]) (sc := defScope s_isrow) (by decide +kernel)) (fun _ _ _ _ _ => (pg_tup rfl (pgs_cons (pg_name (i := 5) sc_isrow.nd rfl (.inl rfl)) (pgs_cons (pg_name (i := 6) sc_isrow.nd rfl (.inl rfl)) pgs_nil)))) (fun _ _ _ _ _ => pts_nil) (fun _ _ _ _ _ => (pcall T.D_ispart (ok_ispart T n) (hr.mono (by omega)) (by rfl) (pa_cons (pv 5) (pa_cons (pv 6) (pa_cons (pv 1) (pa_cons (pv 2) pa_nil))))))) pa_nil))))))), ?_⟩
    obtain ⟨ty, kin⟩ := dp_ty hd
    refine ⟨_, rfl, _, _, _, _, _, rfl, .ty "tuple", ty, kit_dat (by decide) kin, _, rfl, ?_⟩
    by_cases ht : kindD d = "tuple"
    · refine ite0 (by rw [decide_eq_true ht]; rfl) ?_
      obtain ⟨ds, rfl⟩ : ∃ ds, d = .tuple ds := by cases d <;> simp [kindD] at ht ⊢
      obtain ⟨a, xs, rfl, hx, hall⟩ := dp_tup hd
      have hl := dpAll_len hall
      refine ⟨_, rfl, Nat.zero_le _, fun p np => ?_⟩
      have s1 := same_upd (o := .tup []) np
      have hp : (upd H p (.tup [])) p = some (.tup []) := upd_same
      refine ⟨.tuple ds, .tuple [], s1.dp hd, .tup (stt hp) .nil, hsh, rfl, ?_⟩
      have hx1 := s1.sqt hx
      have hall1 := s1.dpAll hall
      have kn1 := hkn.same s1
      have ar1 := har.same s1
      generalize upd H p (.tup []) = H1 at s1 hx1 hall1 kn1 ar1 ⊢
      cases ds with
      | nil =>
        refine ⟨_, rfl, iteT ?_⟩
        exact q H1 s1
      | cons d0 ds =>
        refine ⟨_, rfl, ite0 rfl ?_⟩
        cases hall1 with
        | cons p0 hall1 =>
        rename_i x0 xs
        obtain ⟨ty0, kin0⟩ := dp_ty p0
        refine ⟨_, rfl, _, _, _, _, rfl, rfl, hx1, atI_nat (j := 0) rfl, _, _, _, _, _, rfl, .ty "str", ty0, kit_dat (by decide) kin0, _, rfl, ?_⟩
        by_cases hs0 : kindD d0 = "str"
        · obtain ⟨z, rfl⟩ : ∃ z, d0 = .str z := by cases d0 <;> simp [kindD] at hs0 ⊢
          cases p0
          refine ite0 (by rw [decide_eq_true hs0]; rfl) ?_
          refine ⟨_, rfl, _, _, _, _, rfl, rfl, hx1, atI_nat (j := 0) rfl, z, rfl, rfl, _, rfl, ?_⟩
          have ek := partsV_key z
          cases ez : kindsOf z with
          | none =>
            rw [ez] at ek
            refine ite1 (show (!decide (z ∈ partsV.map (·.1))) = true by rw [ek]; rfl) ?_
            have h2 := q H1 s1
            rw [show isRowD cs ls hs ps (.tuple (.str z :: ds)) = false by show (match kindsOf z with | some ks => _ | none => _) = false; rw [ez]] at h2
            exact h2
          | some ks =>
            rw [ez] at ek
            refine ite0 (show (!decide (z ∈ partsV.map (·.1))) = false by rw [ek]; rfl) ?_
            have er : isRowD cs ls hs ps (.tuple (.str z :: ds)) = (decide (ds.length = ks.length) && (ks.zip ds).all fun q => isPartD cs ls hs ps q.1 q.2) := by
              show (match kindsOf z with | some ks => _ | none => _) = _
              rw [ez]
            rw [er] at q
            have l1 : xs.length = ds.length := dpAll_len hall1
            have len4 : ds.length ≤ 10000 := by
              simp only [okD, Bool.and_eq_true, decide_eq_true_eq, List.length_cons] at hk
              omega
            refine ⟨_, rfl, a, _, rfl, hx1, by rw [List.length_cons]; omega, by rw [List.length_cons]; omega, fun sp nsp => ?_⟩
            have e1 : List.take ((V.str z :: xs).length + 1 - 2) (List.drop 1 (V.str z :: xs)) = xs := by
              rw [List.length_cons, List.drop_succ_cons, List.drop_zero, show xs.length + 1 + 1 - 2 = xs.length by omega, List.take_length]
            have e2 : List.drop ((V.str z :: xs).length + 1 - 2) (List.drop 1 (V.str z :: xs)) = [] := by
              rw [List.length_cons, List.drop_succ_cons, List.drop_zero, show xs.length + 1 + 1 - 2 = xs.length by omega, List.drop_length]
            rw [e1, e2]
            refine ⟨_, _, rfl, _, _, rfl, rfl, ?_⟩
            have s2 := same_upd (o := .lst xs) nsp
            have hsp : (upd H1 sp (.lst xs)) sp = some (.lst xs) := upd_same
            show tSeq _ _ _ _ (upd H1 sp (.lst xs))
            generalize upd H1 sp (.lst xs) = H2 at s2 hsp ⊢
            have mV := partsV_mem ez
            refine ⟨_, rfl, sp, _, rfl, .inl (sl hsp), _, rfl, _, mV, rfl, rfl, fun t ht => ⟨t, _, rfl, .inr (ht H2), rfl, _, rfl, ?_⟩⟩
            have ei : decide (V.int ((xs.length : Nat) : Int) = V.int ((ks.map V.str).length : Nat)) = decide (ds.length = ks.length) := by
              rw [List.length_map, l1]
              exact decide_eq_decide.mpr ⟨fun h => by have := V.int.inj h; omega, fun h => by rw [h]⟩
            rw [ei]
            by_cases hlen : ds.length = ks.length
            · refine ite0 (by rw [decide_eq_true hlen]; rfl) ?_
              rw [decide_eq_true hlen, Bool.true_and] at q
              refine ⟨_, rfl, _, mV, rfl, rfl, fun t ht => ⟨_, rfl, t, sp, _, _, rfl, ht H2, sl hsp, fun L nL => ?_⟩⟩
              refine lc_it (HE.walk_zipTL (xs := ks.map V.str) (ys := xs) (n := ks.length) (by rw [List.length_map]; omega)) (fun i H3 => Same H2 H3 ∧ H3 L = some (.lst ((((ks.zip ds).take i).map fun q => isPartD cs ls hs ps q.1 q.2).map V.bl))) ⟨same_upd nL, upd_same⟩ (fun i H3 _ g => ⟨ht H3, sl (g.1 _ _ hsp)⟩) ?_ ?_
              · rintro i x H3 H4 hi ⟨sm, hL⟩ ⟨Tt, x1, x2, rfl, nT, rfl, g1, g2⟩
                have h2 : i < xs.length := by omega
                have h3 : i < ds.length := by omega
                dsimp only at g1 g2
                rw [List.getElem?_map, List.getElem?_eq_getElem hi] at g1
                rw [List.getElem?_eq_getElem h2] at g2
                cases g1
                cases g2
                have smT := same_upd (o := .tup [.str ks[i], xs[i]]) nT
                have s14 := s2.trans (sm.trans smT)
                refine ⟨Tt, _, rfl, stt upd_same, rfl, _, _, rfl, _, _, rfl, rfl, rfl, ?_⟩
                have okm : okD ds[i] = true := by
                  simp only [okD, Bool.and_eq_true] at hk
                  exact okAll_mem hk.2 _ (List.mem_cons_of_mem _ (List.getElem_mem h3))
                have depm : ds[i].depth ≤ n := by
                  have := depthAll_mem (List.mem_cons_of_mem (PyData.str z) (List.getElem_mem h3))
                  simp only [PyData.depth] at hdep
                  omega
                refine ⟨_, rfl, _, rfl, _, rfl, _, rfl, ks[i], xs[i], ds[i], kn, ar, cs, ls, hs, ps, rfl, s14.dp (dpAll_at hall1 h2 h3), okm, depm, kn1.same s14, ar1.same s14, fun H5 s5 => ?_⟩
                refine ⟨_, s5 _ _ (smT _ _ hL), ?_, ((sm.trans smT).trans s5).own nL, ?_⟩
                · rw [List.length_map, List.length_map]
                  refine small1000 (Nat.le_trans (List.length_take_le _ _) ?_)
                  have := kinds_len ez
                  omega
                · rw [upd_same, List.take_add_one, List.getElem?_eq_getElem (by rw [List.length_zip]; omega), List.getElem_zip, List.map_append, List.map_append]
                  rfl
              · rintro H3 ⟨sm, hL⟩
                rw [List.take_of_length_le (by rw [List.length_zip]; omega)] at hL
                refine ⟨L, _, rfl, sl hL, ?_⟩
                rw [List.all_map]
                exact q H3 (s1.trans (s2.trans sm))
            · refine ite1 (by rw [decide_eq_false hlen]; rfl) ?_
              have h2 := q H2 (s1.trans s2)
              rw [decide_eq_false hlen, Bool.false_and] at h2
              exact h2
        · refine ite1 (by rw [decide_eq_false hs0]; rfl) ?_
          have h2 := q H1 s1
          rw [show isRowD cs ls hs ps (.tuple (d0 :: ds)) = false by cases d0 <;> first | rfl | exact absurd rfl hs0] at h2
          exact h2
    · refine ite1 (by rw [decide_eq_false ht]; rfl) ?_
      have h2 := q H (Same.refl H)
      rw [show isRowD cs ls hs ps d = false by cases d <;> first | rfl | exact absurd rfl ht] at h2
      exact h2
end
end TP
namespace TP
open PySem PySem.Spec PyProof.Rows L2 HX HB HG HU HH HD HS
/-! ### what is around an inner body -/
def aroundP (z h nm : Str) (ps : List (Str × Str)) : List (Str × Str) :=
  if z = "start" then ps.take ((ps.map (·.1)).idxOf h + 1) else if z = "nest" ∨ z = "within" then ps ++ [(nm, z)] else ps
section
variable {P : Program} {w : World} {K : PySem.W.Frag} {mg : Str → Option Value} {base : Heap}
def spAround (K : PySem.W.Frag) : Sp := fun vs H Q _ => ∃ (a ar : Addr) (xs : List V) (z h nm : Str) (ps : List (Str × Str)), vs = [.ref a, .ref ar] ∧ SqT K H a xs ∧ xs[0]? = some (.str z) ∧ Ar K H ar ps ∧ ps.length + 1 ≤ 1000 ∧
  (z = "start" → xs[1]? = some (.str h) ∧ h ∈ ps.map (·.1)) ∧ (z = "nest" ∨ z = "within" → atI xs (-2) = some (.str nm)) ∧
  ∀ (ar' : Addr) (H' : Hp), Same H H' → Ar K H' ar' (aroundP z h nm ps) → Q (.ref ar') H'
theorem in_two' (c x y : Str) : inV (.str c) [.str x, .str y] = decide (c = x ∨ c = y) := by
  have e := inV_strs c [x, y]
  rw [show ([x, y].map V.str) = [.str x, .str y] from rfl] at e
  rw [e]
  exact decide_eq_decide.mpr (by simp)
theorem ok_around (T : Tp K w mg) : FnOk P w K mg base CX0 1 T.f_around T.fd_around ["row", "around"] (spAround K) := by
  refine T.D_around.F.ok sc_around (fun vs H Q E h => ?_) (fun cdv A outer s H vs Q E hr h => ?_)
  · obtain ⟨a, ar, xs, z, h, nm, ps, rfl, _⟩ := h
    rfl
  · obtain ⟨a, ar, xs, z, h, nm, ps, rfl, hx, hz, har, hfew, hst, hnw, q⟩ := h
    refine ⟨_, (pss_cons (ps_if (pt_cmpR op_eq (pe_ix ix_tup (pv 0) pe_int (fun _ _ => rfl)) pe_str (nomark _))
  (pss_one (ps_ret (pe_slice HT2.sl_tupA (pv 1) po_none (po_some (pe_op op_add (pe_bm PySem.F.plainAttrs_list PySem.F.slot_list_index PySem.F.type_list_index mt_index (pe_lc (own := [("name", 2), ("word", 3)]) (g := gTup K 2 (gCons (gName 2) (gCons (gName 3) gNil))) (by rfl) sc_around.nd (pi_tup (pv 1)) (blkOk_by (own := [("name", 2), ("word", 3)]) (N := ["row", "around", "name", "word"]) (sc := defScope s_around) (by decide +kernel)) (fun _ _ _ _ _ => (pg_tup rfl (pgs_cons (pg_name (i := 2) sc_around.nd rfl (.inl rfl)) (pgs_cons (pg_name (i := 3) sc_around.nd rfl (.inl rfl)) pgs_nil)))) (fun _ _ _ _ _ => pts_nil) (fun _ _ _ _ _ => (pv 2))) (pa_cons (pe_ix ix_tup (pv 0) pe_int (fun _ _ => rfl)) pa_nil)) pe_int)))))
  pss_nil)
  (pss_cons (ps_if (pt_cmpR op_in_seq (pe_ix ix_tup (pv 0) pe_int (fun _ _ => rfl)) (pe_tup (pa_cons pe_str (pa_cons pe_str pa_nil))) (by rfl))
  (pss_one (ps_ret (pe_op HT2.op_catA (pv 1) (pe_tup (pa_cons (pe_tup (pa_cons (pe_ix ix_tup (pv 0) (pe_un un_neg pe_int) (fun _ _ => rfl)) (pa_cons (pe_ix ix_tup (pv 0) pe_int (fun _ _ => rfl)) pa_nil))) pa_nil)))))
  pss_nil)
  (pss_one (ps_ret (pv 1))))), ?_⟩
    have at0 := atI_nat hz
    refine ⟨_, rfl, _, _, _, _, rfl, rfl, hx, at0, rfl, _, rfl, ?_⟩
    rw [es_str]
    refine ite2 (fun h1 => ?_) (fun h1 => ?_)
    · have h1 := of_decide_eq_true h1
      obtain ⟨k1, k2⟩ := hst h1
      rw [show aroundP z h nm ps = ps.take ((ps.map (·.1)).idxOf h + 1) by unfold aroundP; rw [if_pos h1]] at q
      obtain ⟨ts, a1, a2⟩ := har.ex
      have tl : ts.length = ps.length := a2.length
      refine ⟨_, rfl, _, rfl, ar, rfl, ⟨_, a1⟩, fun L nL => lc_it (walk_tup (xs := ts.map V.ref)) (fun i H2 => Same H H2 ∧ H2 L = some (.lst (((ps.take i).map (·.1)).map V.str))) ⟨same_upd nL, upd_same⟩ (fun i H2 _ g => g.1.sqt a1) ?_ ?_⟩
      · rintro i x H2 H3 hi ⟨sm, hL⟩ ⟨rfl, hx⟩
        rw [List.length_map] at hi
        rw [List.getElem?_map, List.getElem?_eq_getElem hi] at hx
        cases hx
        obtain ⟨p, e1, e2⟩ := paired_at a2 (List.getElem?_eq_getElem hi)
        refine ⟨_, _, rfl, sm.sqt e2, rfl, _, _, rfl, _, _, rfl, rfl, rfl, ?_⟩
        refine ⟨_, rfl, _, hL, ?_, sm.own nL, ?_⟩
        · rw [List.length_map, List.length_map]
          exact small1000 (Nat.le_trans (List.length_take_le _ _) (by omega))
        · rw [upd_same, List.take_add_one, e1, List.map_append, List.map_append]
          rfl
      · rintro H2 ⟨sm, hL⟩
        rw [List.length_map, tl, List.take_length] at hL
        have hj : (ps.map (·.1)).idxOf h < (ps.map (·.1)).length := List.idxOf_lt_length_of_mem k2
        have eqs : ∀ y z : Str, eqV (.str y) (.str z) = decide (y = z) := fun y z => by
          simp only [eqV]
          by_cases e : y = z
          · subst e; simp
          · rw [decide_eq_false e]; exact beq_eq_false_iff_ne.mpr e
        refine ⟨.inl ⟨rfl, _, sl hL⟩, _, rfl, _, _, _, _, rfl, rfl, sm.sqt hx, atI_nat (j := 1) k1, ?_⟩
        refine ⟨L, _, .str h, (ps.map (·.1)).idxOf h, .str h, rfl, rfl, sl hL, rfl, flat_strs _, ?_, ?_, ?_, _, _, rfl, rfl, ?_⟩
        · rw [List.getElem?_map, List.getElem?_eq_getElem hj, List.getElem_idxOf hj]
          rfl
        · rw [eqs]; exact decide_eq_true rfl
        · intro m z' hm hz'
          rw [List.getElem?_map] at hz'
          cases e : (ps.map (·.1))[m]? with
          | none => rw [e] at hz'; cases hz'
          | some y =>
            rw [e] at hz'
            cases hz'
            rw [eqs]
            refine decide_eq_false fun ey => ?_
            subst ey
            obtain ⟨hm2, e2⟩ := List.getElem?_eq_some_iff.mp e
            have h3 := List.not_of_lt_findIdx (p := (· == y)) (xs := ps.map (·.1)) hm
            rw [e2] at h3
            simp at h3
        · have har2 := har.same sm
          obtain ⟨ts2, b1, b2⟩ := har2.ex
          have tl2 : ts2.length = ps.length := b2.length
          generalize (ps.map (·.1)).idxOf h = j at hj q ⊢
          rw [List.length_map] at hj
          have ej : ((j : Int) + 1) = ((j + 1 : Nat) : Int) := by omega
          refine ⟨_, rfl, ar, _, rfl, b1, fun hw => ?_, fun hw p np => ?_⟩
          · have e : ps.take (j + 1) = ps := by
              have h2 := hw.2
              rw [ej, HT.sIx_nat, List.length_map, tl2] at h2
              exact List.take_of_length_le (by omega)
            rw [e] at q
            exact q ar H2 sm har2
          · have s3 := same_upd (o := .tup (cutV (ts2.map V.ref) none (some ((j : Int) + 1)))) np
            have ec : cutV (ts2.map V.ref) none (some ((j : Int) + 1)) = (ts2.take (j + 1)).map V.ref := by
              rw [ej, cut_to, List.map_take]
            refine q p _ (sm.trans s3) ⟨⟨ts2.take (j + 1), stt (by rw [upd_same, ec]), ?_⟩, by rw [List.length_take]; omega⟩
            have pt : ∀ {l : List Addr} {m : List (Str × Str)} (k : Nat), Paired (fun t (p : Str × Str) => SqT K H2 t [.str p.1, .str p.2]) l m → Paired (fun t (p : Str × Str) => SqT K H2 t [.str p.1, .str p.2]) (l.take k) (m.take k) := by
              intro l m k hp
              induction hp generalizing k with
              | nil => rw [List.take_nil, List.take_nil]; exact .nil
              | cons x t ih =>
                cases k with
                | zero => exact .nil
                | succ k => rw [List.take_succ_cons, List.take_succ_cons]; exact .cons x (ih k)
            exact paired_imp (fun _ _ h => s3.sqt h) (pt (j + 1) b2)
    refine ⟨_, rfl, _, _, _, _, rfl, rfl, hx, at0, by show 2 ≤ sizeLine; decide, fun p np => ?_⟩
    have s1 := same_upd (o := .tup [.str "nest", .str "within"]) np
    refine ⟨p, _, rfl, .inr (stt upd_same), rfl, rfl, _, rfl, ?_⟩
    rw [if_neg Bool.false_ne_true, in_two']
    have n1 : z ≠ "start" := fun e => h1 (decide_eq_true e)
    refine ite2 (fun h2 => ?_) (fun h2 => ?_)
    · have h2 := of_decide_eq_true h2
      rw [show aroundP z h nm ps = ps ++ [(nm, z)] by unfold aroundP; rw [if_neg n1, if_pos h2]] at q
      have har1 := har.same s1
      have hx1 := s1.sqt hx
      generalize upd H p (.tup [.str "nest", .str "within"]) = H1 at s1 har1 hx1 ⊢
      obtain ⟨ts, b1, b2⟩ := har1.ex
      have tl : ts.length = ps.length := b2.length
      refine ⟨_, rfl, _, rfl, _, rfl, a, _, _, _, rfl, rfl, hx1, hnw h2, _, rfl, _, _, _, _, rfl, rfl, hx1, at0, by show 2 ≤ sizeLine; decide, fun t nt => ?_⟩
      have s2 := same_upd (o := .tup [.str nm, .str z]) nt
      have ht : (upd H1 t (.tup [.str nm, .str z])) t = some (.tup [.str nm, .str z]) := upd_same
      generalize upd H1 t (.tup [.str nm, .str z]) = H2 at s2 ht ⊢
      refine ⟨by show 1 ≤ sizeLine; decide, fun t1 nt1 => ?_⟩
      have s3 := same_upd (o := .tup [.ref t]) nt1
      have ht1 : (upd H2 t1 (.tup [.ref t])) t1 = some (.tup [.ref t]) := upd_same
      generalize upd H2 t1 (.tup [.ref t]) = H3 at s3 ht1 ⊢
      have s13 := s2.trans s3
      refine ⟨ar, t1, _, [.ref t], rfl, rfl, s13.sqt b1, stt ht1, by rw [List.length_map]; exact Evl.sz_of (by show ts.length + 1 ≤ _; omega), fun e => ?_, (fun _ e => nomatch e), fun _ _ p2 np2 => ?_⟩
      · have e0 : ps = [] := by
          have := congrArg List.length e
          rw [List.length_map, List.length_nil] at this
          exact List.length_eq_zero_iff.mp (by omega)
        subst e0
        exact q t1 H3 (s1.trans s13) ⟨⟨[t], stt ht1, .cons (stt (s3 _ _ ht)) .nil⟩, by show 1 ≤ 1000; decide⟩
      · have s4 := same_upd (o := .tup (ts.map V.ref ++ [.ref t])) np2
        refine q p2 _ (s1.trans (s13.trans s4)) ⟨⟨ts ++ [t], stt (by rw [upd_same, List.map_append]; rfl), ?_⟩, by rw [List.length_append]; exact hfew⟩
        exact (paired_imp (fun _ _ h => (s13.trans s4).sqt h) b2).snoc (stt ((s3.trans s4) _ _ ht))
    · rw [show aroundP z h nm ps = ps by unfold aroundP; rw [if_neg n1, if_neg (fun e => h2 (decide_eq_true e))]] at q
      exact ⟨_, rfl, q ar _ s1 (har.same s1)⟩
end
end TP
namespace TP
open PySem PySem.Spec PyProof.Rows L2 HX HB HG HU HH HD HS
/-! ### the first wrong place -/
def firstSome {α β : Type} (f : Nat → α → Option β) : Nat → List α → Option β
  | _, [] => none
  | i, x :: xs => match f i x with
    | some b => some b
    | none => firstSome f (i + 1) xs
def wordD : PyData → Str
  | .tuple (.str z :: _) => z
  | _ => ""
def homeD : PyData → Str
  | .tuple (_ :: .str h :: _) => h
  | _ => ""
def txtD : PyData → Str
  | .str z => z
  | _ => ""
def lastD : PyData → Str
  | .tuple ds => txtD (ds.getD (ds.length - 2) .none)
  | _ => ""
def arD (d : PyData) (ps : List (Str × Str)) : List (Str × Str) := aroundP (wordD d) (homeD d) (lastD d) ps
def bodiesD : PyData → List PyData
  | .tuple (.str z :: ds) => match kindsOf z with
    | some ks => bodiesV ks ds
    | none => []
  | _ => []
def rowsD : PyData → List PyData
  | .tuple ds => ds
  | _ => []
def oftD (d : PyData) : Int := if wordD d = "often" then 1 else 0
def wrongD (cs ls hs : List Str) : Nat → List PyData → List Int → List (Str × Str) → Int → Option (List Int)
  | 0, _, _, _, _ => none
  | n + 1, rows, place, ps, oft => firstSome (fun i row =>
      if 19 < place.length + 1 ∨ isRowD cs ls hs ps row = false then some (place ++ [(i : Int)])
      else if 3 < oft + oftD row then some (place ++ [(i : Int)])
      else firstSome (fun j b => wrongD cs ls hs n (rowsD b) (place ++ [(i : Int)] ++ [(j : Int)]) (arD row ps) (oft + oftD row)) 0 (bodiesD row)) 0 rows
/-- what a right row has -/
structure RowOk (cs ls hs : List Str) (ps : List (Str × Str)) (d : PyData) (z : Str) (ks : List Str) (ds : List PyData) : Prop where
  eq : d = .tuple (.str z :: ds)
  ks_ : kindsOf z = some ks
  len : ds.length = ks.length
  parts : ∀ q ∈ ks.zip ds, isPartD cs ls hs ps q.1 q.2 = true
theorem row_ok {cs ls hs : List Str} {ps : List (Str × Str)} {d : PyData} (h : isRowD cs ls hs ps d = true) : ∃ z ks ds, RowOk cs ls hs ps d z ks ds := by
  unfold isRowD at h
  split at h
  · rename_i z ds
    cases e : kindsOf z with
    | none => rw [e] at h; cases h
    | some ks =>
      rw [e] at h
      simp only [Bool.and_eq_true, decide_eq_true_eq] at h
      exact ⟨z, ks, ds, rfl, e, h.1, fun q hq => List.all_eq_true.mp h.2 q hq⟩
  · cases h
theorem mergeZ_mem : ∀ (ps acc : List (Str × Str)) (z : Str), z ∈ (mergeZ acc ps).map (·.1) → z ∈ acc.map (·.1) ∨ z ∈ ps.map (·.1)
  | [], acc, z, h => .inl h
  | p :: ps, acc, z, h => by
    rcases mergeZ_mem ps (putZ acc p.1 p.2) z h with h | h
    · rw [putZ_keys] at h
      split at h
      · exact .inl h
      · rcases List.mem_append.mp h with h | h
        · exact .inl h
        · exact .inr (by rw [List.mem_singleton.mp h, List.map_cons]; exact List.mem_cons_self ..)
    · exact .inr (by rw [List.map_cons]; exact List.mem_cons_of_mem _ h)
theorem lookW_mem {ps : List (Str × Str)} {z w : Str} (h : lookW ps z = some w) : z ∈ ps.map (·.1) := by
  unfold lookW lookS at h
  cases e : (mergeZ [] ps).find? fun p => decide (p.1 = z) with
  | none => rw [e] at h; cases h
  | some q =>
    have h1 := List.mem_of_find?_eq_some e
    have h2 : q.1 = z := by have := List.find?_some e; simpa using this
    rcases mergeZ_mem ps [] z (List.mem_map.mpr ⟨q, h1, h2⟩) with h | h
    · cases h
    · exact h
theorem part_home {cs ls hs : List Str} {ps : List (Str × Str)} {d : PyData} (h : isPartD cs ls hs ps "home" d = true) : ∃ z, d = .str z ∧ z ∈ ps.map (·.1) := by
  have e : isPartD cs ls hs ps "home" d = strPart d fun z => namePart "home" z cs ls hs ps := rfl
  rw [e] at h
  cases d with
  | str z =>
    refine ⟨z, rfl, ?_⟩
    have h2 : (isNameL z && decide (lookW ps z = some ("nest" : Str))) = true := h
    rw [Bool.and_eq_true] at h2
    exact lookW_mem (of_decide_eq_true h2.2)
  | _ => cases h
theorem part_scope {cs ls hs : List Str} {ps : List (Str × Str)} {d : PyData} (h : isPartD cs ls hs ps "scope" d = true) : ∃ z, d = .str z := by
  have e : isPartD cs ls hs ps "scope" d = strPart d fun z => namePart "scope" z cs ls hs ps := rfl
  rw [e] at h
  cases d with
  | str z => exact ⟨z, rfl⟩
  | _ => cases h
theorem part_body {cs ls hs : List Str} {ps : List (Str × Str)} {d : PyData} (h : isPartD cs ls hs ps "body" d = true) : d = .tuple (rowsD d) := by
  have e : isPartD cs ls hs ps "body" d = decide (kindD d = "tuple") := rfl
  rw [e] at h
  cases d <;> first | rfl | exact absurd (of_decide_eq_true h) (by simp [kindD])
theorem bodies_parts : ∀ {ks : List Str} {ds : List PyData} {P : PyData → Prop}, (∀ q ∈ ks.zip ds, q.1 = "body" → P q.2) → ∀ b ∈ bodiesV ks ds, P b
  | [], _, P, _, b, hb => by simp [bodiesV] at hb
  | k :: ks, [], P, _, b, hb => by simp [bodiesV] at hb
  | k :: ks, d :: ds, P, h, b, hb => by
    have ih := bodies_parts (ks := ks) (ds := ds) (P := P) fun q hq => h q (by rw [List.zip_cons_cons]; exact List.mem_cons_of_mem _ hq)
    simp only [bodiesV] at hb
    split at hb
    · rename_i hk
      rcases List.mem_cons.mp hb with rfl | hb
      · exact h (k, b) (by rw [List.zip_cons_cons]; exact List.mem_cons_self ..) hk
      · exact ih b hb
    · exact ih b hb
theorem bodiesV_mem {α : Type} : ∀ {ks : List Str} {ds : List α} {b : α}, b ∈ bodiesV ks ds → b ∈ ds
  | [], _, b, h => by simp [bodiesV] at h
  | k :: ks, [], b, h => by simp [bodiesV] at h
  | k :: ks, d :: ds, b, h => by
    simp only [bodiesV] at h
    split at h
    · rcases List.mem_cons.mp h with rfl | h
      · exact List.mem_cons_self ..
      · exact List.mem_cons_of_mem _ (bodiesV_mem h)
    · exact List.mem_cons_of_mem _ (bodiesV_mem h)
theorem kinds_start : kindsOf "start" = some (["home", "body"] : List Str) := rfl
theorem kinds_nest : kindsOf "nest" = some (["scope", "body"] : List Str) := rfl
theorem kinds_within : kindsOf "within" = some (["span", "scope", "body"] : List Str) := rfl
/-- data that the rules take, of depth n at most -/
structure Good (d : PyData) (n : Nat) : Prop where
  ok : okD d = true
  lay : PyData.canLay0 d = true
  dep : d.depth ≤ n
theorem canLay_mem : ∀ {xs : List PyData}, PyData.canLayAll0 xs = true → ∀ x ∈ xs, PyData.canLay0 x = true
  | y :: ys, h, x, hx => by
    simp only [PyData.canLayAll0, Bool.and_eq_true] at h
    rcases List.mem_cons.mp hx with rfl | hx
    · exact h.1
    · exact canLay_mem h.2 x hx
theorem Good.item {ds : List PyData} {n : Nat} (g : Good (.tuple ds) (n + 1)) {d : PyData} (h : d ∈ ds) : Good d n := by
  obtain ⟨h1, h2, h3⟩ := g
  simp only [okD, Bool.and_eq_true] at h1
  simp only [PyData.depth] at h3
  refine ⟨okAll_mem h1.2 d h, ?_, by have := depthAll_mem h; omega⟩
  exact canLay_mem (by simpa [PyData.canLay0] using h2) d h
theorem Good.shaped {d : PyData} {n : Nat} (g : Good d n) (hn : n ≤ 64) : SeqAt.shaped d = true := by
  show (PyData.canLay0 d && decide (d.depth ≤ 64)) = true
  rw [g.lay, decide_eq_true (Nat.le_trans g.dep hn)]
  rfl
theorem Good.mono {d : PyData} {n m : Nat} (g : Good d n) (h : n ≤ m) : Good d m := ⟨g.ok, g.lay, Nat.le_trans g.dep h⟩
end TP
namespace TP
open PySem PySem.Spec PyProof.Rows L2 HX HB HG HU HH HD HS
def Res (K : PySem.W.Frag) (H : Hp) (r : Option (List Int)) (v : V) : Prop := match r with
  | none => v = .non
  | some p => ∃ t : Addr, v = .ref t ∧ SqT K H t (p.map V.int)
theorem Res.same {K : PySem.W.Frag} {H H' : Hp} {r : Option (List Int)} {v : V} (h : Res K H r v) (s : Same H H') : Res K H' r v := by
  cases r with
  | none => exact h
  | some p => obtain ⟨t, e, h⟩ := h; exact ⟨t, e, s.sqt h⟩
/-- what one row comes to -/
def rowF (cs ls hs : List Str) (n : Nat) (place : List Int) (ps : List (Str × Str)) (oft : Int) (i : Nat) (row : PyData) : Option (List Int) :=
  if 19 < place.length + 1 ∨ isRowD cs ls hs ps row = false then some (place ++ [(i : Int)])
  else if 3 < oft + oftD row then some (place ++ [(i : Int)])
  else firstSome (fun j b => wrongD cs ls hs n (rowsD b) (place ++ [(i : Int)] ++ [(j : Int)]) (arD row ps) (oft + oftD row)) 0 (bodiesD row)
theorem firstSome_at {α β : Type} (f : Nat → α → Option β) {xs : List α} {i : Nat} (h : i < xs.length) : firstSome f i (xs.drop i) = match f i xs[i] with
    | some b => some b
    | none => firstSome f (i + 1) (xs.drop (i + 1)) := by
  rw [List.drop_eq_getElem_cons h]
  rfl
theorem dpAll_bodies {K : PySem.W.Frag} {H : Hp} : ∀ (ks : List Str) {xs : List V} {ds : List PyData}, DpAll K H xs ds → DpAll K H (bodiesV ks xs) (bodiesV ks ds)
  | [], _, _, _ => .nil
  | k :: ks, _, _, .nil => .nil
  | k :: ks, _, _, .cons p t => by
    have ih := dpAll_bodies ks t
    simp only [bodiesV]
    split
    · exact .cons p ih
    · exact ih
theorem dpAll_cons {K : PySem.W.Frag} {H : Hp} {xs : List V} {d : PyData} {ds : List PyData} (h : DpAll K H xs (d :: ds)) : ∃ x ys, xs = x :: ys ∧ Dp K H x d ∧ DpAll K H ys ds := by
  cases h with
  | cons p t => exact ⟨_, _, rfl, p, t⟩
theorem dpAll_nil {K : PySem.W.Frag} {H : Hp} {xs : List V} (h : DpAll K H xs []) : xs = [] := by
  cases h
  rfl
theorem around_ok {cs ls hs : List Str} {ps : List (Str × Str)} {z : Str} {ks : List Str} {ds : List PyData} {K : PySem.W.Frag} {H : Hp} {rxs : List V} (R : RowOk cs ls hs ps (.tuple (.str z :: ds)) z ks ds) (rall : DpAll K H rxs ds) :
    (z = "start" → (V.str z :: rxs)[1]? = some (.str (homeD (.tuple (.str z :: ds)))) ∧ homeD (.tuple (.str z :: ds)) ∈ ps.map (·.1)) ∧
    (z = "nest" ∨ z = "within" → atI (V.str z :: rxs) (-2) = some (.str (lastD (.tuple (.str z :: ds))))) := by
  obtain ⟨_, hk, hl, hp⟩ := R
  refine ⟨fun e => ?_, fun e => ?_⟩
  · subst e
    rw [kinds_start] at hk
    cases hk
    match ds, rall, hl, hp with
    | [d1, d2], rall, _, hp =>
      obtain ⟨h, rfl, hm⟩ := part_home (hp ("home", d1) (List.mem_cons_self ..))
      cases rall with
      | cons p1 rall => cases p1; exact ⟨rfl, hm⟩
  · rcases e with rfl | rfl
    · rw [kinds_nest] at hk
      cases hk
      match ds, rall, hl, hp with
      | [d1, d2], rall, _, hp =>
        obtain ⟨h, rfl⟩ := part_scope (hp ("scope", d1) (List.mem_cons_self ..))
        obtain ⟨x1, r1, rfl, p1, rall⟩ := dpAll_cons rall
        obtain ⟨x2, r2, rfl, p2, rall⟩ := dpAll_cons rall
        cases dpAll_nil rall
        cases p1
        rfl
    · rw [kinds_within] at hk
      cases hk
      match ds, rall, hl, hp with
      | [d0, d1, d2], rall, _, hp =>
        obtain ⟨h, rfl⟩ := part_scope (hp ("scope", d1) (List.mem_cons_of_mem _ (List.mem_cons_self ..)))
        obtain ⟨x0, r0, rfl, p0, rall⟩ := dpAll_cons rall
        obtain ⟨x1, r1, rfl, p1, rall⟩ := dpAll_cons rall
        obtain ⟨x2, r2, rfl, p2, rall⟩ := dpAll_cons rall
        cases dpAll_nil rall
        cases p1
        rfl
theorem around_len (z h nm : Str) (ps : List (Str × Str)) : (aroundP z h nm ps).length ≤ ps.length + 1 := by
  unfold aroundP
  split
  · rw [List.length_take]; omega
  · split
    · rw [List.length_append, List.length_singleton]; omega
    · omega
section
variable {P : Program} {w : World} {K : PySem.W.Frag} {mg : Str → Option Value} {base : Heap}
def spWrong (K : PySem.W.Frag) (N n : Nat) : Sp := fun vs H Q _ => ∃ (b pl kn ar : Addr) (rows : List PyData) (place : List Int) (cs ls hs : List Str) (ps : List (Str × Str)) (oft : Int), vs = [.ref b, .ref pl, .ref kn, .ref ar, .int oft] ∧
  Dp K H (.ref b) (.tuple rows) ∧ Good (.tuple rows) n ∧ n ≤ N ∧ Kn K H kn cs ls hs ∧ Ar K H ar ps ∧ SqT K H pl (place.map V.int) ∧ ps.length ≤ place.length ∧ place.length ≤ 20 ∧ 0 ≤ oft ∧ oft ≤ 10 ∧
  ∀ v H', Same H H' → Res K H' (wrongD cs ls hs n rows place ps oft) v → Q v H'
theorem ok_wrong (T : Tp K w mg) (N : Nat) (hN : N ≤ 64) : ∀ n, FnOk P w K mg base CX0 (n + (N + 4) + 1) T.f_wrong T.fd_wrong ["body", "place", "known", "around", "oftens"] (spWrong K N n) := rec_fn (c := N + 4) (sp := spWrong K N) fun n ih => by
  refine T.D_wrong.F.ok sc_wrong (fun vs H Q E h => ?_) (fun cdv A outer s H vs Q E hr h => ?_)
  · obtain ⟨b, pl, kn, ar, rows, place, cs, ls, hs, ps, oft, rfl, _⟩ := h
    rfl
  · obtain ⟨b, pl, kn, ar, rows, place, cs, ls, hs, ps, oft, rfl, hd, good, hnN, hkn, har, hpl, hps, hp20, o0, o1, q⟩ := h
    refine ⟨_, (pss_cons (ps_for PassesOwn.never rfl (HE.pi_enumT (by rfl) T.enumerate (pa_cons (pv 0) pa_nil)) (pg_tup rfl (pgs_cons (pg_name (i := 5) sc_wrong.nd rfl (.inl rfl)) (pgs_cons (pg_name (i := 6) sc_wrong.nd rfl (.inl rfl)) pgs_nil)))
  (Evl.pss_cut (ps_set (i := 7) sc_wrong.nd rfl (.inl rfl) (pe_op HT2.op_catA (pv 1) (pe_tup (pa_cons (pv 5) pa_nil))))
  (pss_cons (ps_if (PW.pt (pw_or (pt_cmpR op_gt (pe_callB call_len_seq (by rfl) T.len PySem.boot_len (pa_cons (pv 7) pa_nil)) (pe_op op_add (pe_op op_mul pe_int (pe_gi (by rfl) T.c_MOST_DEEP)) pe_int) (nomark _)) (pw_or1 (pt_not (pt_val (pcall T.D_isrow (ok_isrow T N) (hr.mono (by omega)) (by rfl) (pa_cons (pv 6) (pa_cons (pv 2) (pa_cons (pv 3) pa_nil)))))))))
  (pss_one (ps_ret (pv 7)))
  pss_nil)
  (pss_cons (ps_set (i := 8) sc_wrong.nd rfl (.inl rfl) (pe_op op_add (pv 4) (pe_callTy call_int1 (by rfl) T.int (by decide +kernel) (pa_cons (pe_cmpR op_eq (pe_ix ix_tup (pv 6) pe_int (fun _ _ => rfl)) pe_str (nomark _)) pa_nil))))
  (pss_cons (ps_if (pt_cmpR op_gt (pv 8) (pe_op op_add (pe_gi (by rfl) T.c_MOST_OFTEN) pe_int) (nomark _))
  (pss_one (ps_ret (pv 7)))
  pss_nil)
  (pss_one (ps_for PassesOwn.never rfl (pi_enum (by rfl) T.enumerate (pa_cons (pcall T.D_bodies (ok_bodies T) (hr.mono (by omega)) (by rfl) (pa_cons (pv 6) pa_nil)) pa_nil)) (pg_tup rfl (pgs_cons (pg_name (i := 9) sc_wrong.nd rfl (.inl rfl)) (pgs_cons (pg_name (i := 10) sc_wrong.nd rfl (.inl rfl)) pgs_nil)))
  (pss_cons (ps_set (i := 11) sc_wrong.nd rfl (.inl rfl) (pcall T.D_wrong ih (hr.mono (by omega)) (by rfl) (pa_cons (pv 10) (pa_cons (pe_op HT2.op_catA (pv 7) (pe_tup (pa_cons (pv 9) pa_nil))) (pa_cons (pv 2) (pa_cons (pcall T.D_around (ok_around T) (hr.mono (by omega)) (by rfl) (pa_cons (pv 6) (pa_cons (pv 3) pa_nil))) (pa_cons (pv 8) pa_nil)))))))
  (pss_one (ps_if (pt_cmpR op_notN (pv 11) pe_non (nomark _))
  (pss_one (ps_ret (pv 11)))
  pss_nil))))))))))
  (pss_one (ps_ret pe_non))), ?_⟩
    obtain ⟨m, rfl⟩ : ∃ m, n = m + 1 := by
      have := good.dep
      simp only [PyData.depth] at this
      exact ⟨n - 1, by omega⟩
    obtain ⟨b', xs, e, hx, hall⟩ := dp_tup hd
    cases e
    have lx : xs.length = rows.length := dpAll_len hall
    have eW : wrongD cs ls hs (m + 1) rows place ps oft = firstSome (rowF cs ls hs m place ps oft) 0 rows := rfl
    refine ⟨_, rfl, b, xs, rfl, hx, for_it (HE.walk_enumT (xs := xs)) (fun i σ H2 => (∃ y5 y6 y7 y8 y9 y10 y11, σ = [some (.ref b), some (.ref pl), some (.ref kn), some (.ref ar), some (.int oft), y5, y6, y7, y8, y9, y10, y11]) ∧ Same H H2 ∧ firstSome (rowF cs ls hs m place ps oft) i (rows.drop i) = firstSome (rowF cs ls hs m place ps oft) 0 rows) ?_ ?_ ?_ ?_⟩
    · exact ⟨⟨_, _, _, _, _, _, _, rfl⟩, Same.refl H, by rw [List.drop_zero]⟩
    · rintro i σ H2 _ ⟨_, s2, _⟩
      exact s2.sqt hx
    · rintro i x σ H2 H3 hi ⟨⟨y5, y6, y7, y8, y9, y10, y11, rfl⟩, s2, ef⟩ ⟨Tt, x1, x2, rfl, nT, rfl, g1, g2⟩
      cases g1
      dsimp only at g2
      rw [List.getElem?_eq_getElem hi] at g2
      cases g2
      have hi2 : i < rows.length := by omega
      have sT := same_upd (o := .tup [.int (i : Nat), xs[i]]) nT
      refine ⟨Tt, _, rfl, stt upd_same, rfl, _, _, rfl, _, _, rfl, rfl, ?_⟩
      have s3 := s2.trans sT
      generalize upd H2 Tt (.tup [.int (i : Nat), xs[i]]) = H3 at s3 ⊢
      rw [firstSome_at _ hi2] at ef
      have hrow := s3.dp (dpAll_at hall hi hi2)
      have grow : Good rows[i] m := good.item (List.getElem_mem hi2)
      generalize rows[i] = row at ef hrow grow
      generalize xs[i] = xr at hrow ⊢
      refine ⟨fun σ H4 => ∃ (hh : Addr), (∃ y8 y9 y10 y11, σ = [some (.ref b), some (.ref pl), some (.ref kn), some (.ref ar), some (.int oft), some (.int (i : Nat)), some xr, some (.ref hh), y8, y9, y10, y11]) ∧ Same H3 H4 ∧ SqT K H4 hh ((place ++ [(i : Int)]).map V.int), ?_, ?_⟩
      · refine ⟨_, rfl, _, rfl, by show 1 ≤ sizeLine; decide, fun p np => ?_⟩
        have s4 := same_upd (o := .tup [.int (i : Nat)]) np
        have hp : (upd H3 p (.tup [.int (i : Nat)])) p = some (.tup [.int (i : Nat)]) := upd_same
        generalize upd H3 p (.tup [.int (i : Nat)]) = H4 at s4 hp ⊢
        refine ⟨pl, p, _, _, rfl, rfl, (s3.trans s4).sqt hpl, stt hp, by rw [List.length_map]; exact Evl.sz_of (by show place.length + 1 ≤ _; omega), fun e => ?_, (fun _ e => nomatch e), fun _ _ p2 np2 => ?_⟩
        · have e0 : place = [] := by cases place <;> first | rfl | cases e
          subst e0
          exact ⟨p, ⟨_, _, _, _, rfl⟩, s4, stt hp⟩
        · have s5 := same_upd (o := .tup (place.map V.int ++ [.int (i : Nat)])) np2
          exact ⟨p2, ⟨_, _, _, _, rfl⟩, s4.trans s5, stt (by rw [upd_same, List.map_append]; rfl)⟩
      · rintro σ H4 ⟨hh, ⟨y8, y9, y10, y11, rfl⟩, s34, hhh⟩
        have s4 := s3.trans s34
        have hrow4 := s34.dp hrow
        have elen : decide ((2 : Int) * 9 + 1 < (((place ++ [(i : Int)]).map V.int).length : Nat)) = decide (19 < place.length + 1) := by
          rw [List.length_map, List.length_append, List.length_singleton]
          exact decide_eq_decide.mpr (by omega)
        have wrong : ∀ H5, Same H4 H5 → rowF cs ls hs m place ps oft i row = some (place ++ [(i : Int)]) → Q (.ref hh) H5 := fun H5 s5 e => by
          refine q (.ref hh) H5 (s4.trans s5) ?_
          rw [eW, ← ef, e]
          exact ⟨hh, rfl, s5.sqt hhh⟩
        refine ⟨_, rfl, hh, _, rfl, .inr hhh, _, _, rfl, rfl, .inl ⟨by decide, by decide⟩, _, _, rfl, rfl, _, _, rfl, rfl, _, rfl, ?_⟩
        rw [elen]
        refine ite2 (fun h1 => ?_) (fun h1 => ?_)
        · exact ⟨_, rfl, wrong H4 (Same.refl _) (by unfold rowF; rw [if_pos (.inl (of_decide_eq_true h1))])⟩
        have h1 : ¬ 19 < place.length + 1 := fun z => h1 (decide_eq_true z)
        refine ⟨_, rfl, _, rfl, _, rfl, xr, row, kn, ar, cs, ls, hs, ps, rfl, hrow4, grow.ok, grow.shaped (by omega), Nat.le_trans grow.dep (by omega), hkn.same s4, har.same s4, fun H5 s5 => ⟨_, rfl, ?_⟩⟩
        cases er : isRowD cs ls hs ps row with
        | false => exact ite1 rfl ⟨_, rfl, wrong H5 s5 (by unfold rowF; rw [if_pos (.inr er)])⟩
        | true =>
        refine ite0 rfl ?_
        obtain ⟨z, ks, ds, R⟩ := row_ok er
        obtain rfl := R.eq
        obtain ⟨ra, rxs, rfl, rx, rall⟩ := dp_tup (s5.dp hrow4)
        cases rall with
        | cons pz rall =>
        cases pz
        rename_i rxs
        have s45 := s4.trans s5
        have hhh5 := s5.sqt hhh
        refine ⟨_, rfl, _, rfl, _, _, _, _, rfl, rfl, rx, atI_nat (j := 0) rfl, rfl, .inr ⟨_, rfl, _, _, rfl, rfl, ?_⟩⟩
        have eo : (if decide (V.str z = V.str "often") = true then (1 : Int) else 0) = oftD (.tuple (.str z :: ds)) := by
          rw [es_str]
          unfold oftD wordD
          by_cases e : z = "often"
          · rw [if_pos (decide_eq_true e), if_pos e]
          · rw [if_neg (fun h => e (of_decide_eq_true h)), if_neg e]
        rw [eo]
        have oft01 : 0 ≤ oftD (.tuple (.str z :: ds)) ∧ oftD (.tuple (.str z :: ds)) ≤ 1 := by unfold oftD; split <;> decide
        refine ⟨_, rfl, _, _, rfl, rfl, _, _, rfl, rfl, _, rfl, ite2 (fun h2 => ?_) (fun h2 => ?_)⟩
        · have h2 : 3 < oft + oftD (.tuple (.str z :: ds)) := of_decide_eq_true h2
          exact ⟨_, rfl, wrong H5 s5 (by unfold rowF; rw [if_neg (fun h => h.elim h1 (fun e => by rw [er] at e; cases e)), if_pos h2])⟩
        have h2 : ¬ 3 < oft + oftD (.tuple (.str z :: ds)) := fun e => h2 (decide_eq_true e)
        have eF : rowF cs ls hs m place ps oft i (.tuple (.str z :: ds)) = firstSome (fun j b => wrongD cs ls hs m (rowsD b) (place ++ [(i : Int)] ++ [(j : Int)]) (arD (.tuple (.str z :: ds)) ps) (oft + oftD (.tuple (.str z :: ds)))) 0 (bodiesV ks ds) := by
          unfold rowF
          rw [if_neg (fun h => h.elim h1 (fun e => by rw [er] at e; cases e)), if_neg h2]
          have eb : bodiesD (.tuple (.str z :: ds)) = bodiesV ks ds := by
            show (match kindsOf z with | some ks => _ | none => _) = _
            rw [R.ks_]
          rw [eb]
        rw [eF] at ef
        have lr : rxs.length = ds.length := dpAll_len rall
        have lks : ks.length ≤ 3 := kinds_len R.ks_
        refine ⟨_, rfl, ra, z, ks, rxs, rfl, rx, R.ks_, fun lp H6 nlp s6 hlp => ?_⟩
        have hb6 := dpAll_bodies ks (s6.dpAll rall)
        have lb : (bodiesV ks rxs).length = (bodiesV ks ds).length := dpAll_len hb6
        have s46 := s45.trans s6
        have hhh6 := s6.sqt hhh5
        have rx6 := s6.sqt rx
        generalize hg : (fun (j : Nat) (b : PyData) => wrongD cs ls hs m (rowsD b) (place ++ [(i : Int)] ++ [(j : Int)]) (arD (.tuple (.str z :: ds)) ps) (oft + oftD (.tuple (.str z :: ds)))) = g at ef
        refine ⟨lp, bodiesV ks rxs, rfl, sl hlp, for_it (walk_enum (xs := bodiesV ks rxs)) (fun j σ H7 => (∃ y9 y10 y11, σ = [some (.ref b), some (.ref pl), some (.ref kn), some (.ref ar), some (.int oft), some (.int (i : Nat)), some (.ref ra), some (.ref hh), some (.int (oft + oftD (.tuple (.str z :: ds)))), y9, y10, y11]) ∧ Same H6 H7 ∧ firstSome g j ((bodiesV ks ds).drop j) = firstSome g 0 (bodiesV ks ds)) ?_ ?_ ?_ ?_⟩
        · exact ⟨⟨_, _, _, rfl⟩, Same.refl _, by rw [List.drop_zero]⟩
        · rintro j σ H7 _ ⟨_, s7, _⟩
          exact sl (s7 _ _ hlp)
        · rintro j x σ H7 H8 hj ⟨⟨y9, y10, y11, rfl⟩, s7, eg⟩ ⟨T2, x1, x2, rfl, nT2, rfl, g1, g2⟩
          cases g1
          dsimp only at g2
          rw [List.getElem?_eq_getElem hj] at g2
          cases g2
          have hj2 : j < (bodiesV ks ds).length := by omega
          have sT2 := same_upd (o := .tup [.int (j : Nat), (bodiesV ks rxs)[j]]) nT2
          refine ⟨T2, _, rfl, stt upd_same, rfl, _, _, rfl, _, _, rfl, rfl, ?_⟩
          have s78 := s7.trans sT2
          generalize upd H7 T2 (.tup [.int (j : Nat), (bodiesV ks rxs)[j]]) = H8 at s78 ⊢
          have hb8 := s78.dp (dpAll_at hb6 hj hj2)
          have hbm : (bodiesV ks ds)[j] ∈ bodiesV ks ds := List.getElem_mem hj2
          rw [firstSome_at _ hj2] at eg
          have ebt := bodies_parts (P := fun d => d = .tuple (rowsD d)) (fun q hq hk => part_body (by have := R.parts q hq; rw [hk] at this; exact this)) _ hbm
          have gb : Good (bodiesV ks ds)[j] m := by
            obtain ⟨m', hm⟩ : ∃ m', m = m' + 1 := by
              have := grow.dep
              simp only [PyData.depth] at this
              exact ⟨m - 1, by omega⟩
            subst hm
            exact (grow.item (List.mem_cons_of_mem _ (bodiesV_mem hbm))).mono (by omega)
          generalize (bodiesV ks ds)[j] = b0 at hb8 eg ebt gb
          generalize (bodiesV ks rxs)[j] = vb at hb8 ⊢
          obtain ⟨rb, erb⟩ : ∃ rb, rb = rowsD b0 := ⟨_, rfl⟩
          rw [← erb] at ebt
          subst ebt
          obtain ⟨bb, bxs, rfl, _, _⟩ := dp_tup (id hb8)
          have hps' := s46.trans s78
          have ao := around_ok R rall
          refine ⟨_, rfl, _, rfl, _, rfl, by show 1 ≤ sizeLine; decide, fun p np => ?_⟩
          have s9 := same_upd (o := .tup [.int (j : Nat)]) np
          have hp9 : (upd H8 p (.tup [.int (j : Nat)])) p = some (.tup [.int (j : Nat)]) := upd_same
          generalize upd H8 p (.tup [.int (j : Nat)]) = H9 at s9 hp9 ⊢
          refine ⟨hh, p, _, _, rfl, rfl, (s78.trans s9).sqt hhh6, stt hp9, by rw [List.length_map, List.length_append, List.length_singleton]; exact Evl.sz_of (by show place.length + 1 + 1 ≤ _; omega), (fun e => by simp at e), (fun _ e => nomatch e), fun _ _ p2 np2 => ?_⟩
          have s10 := same_upd (o := .tup ((place ++ [(i : Int)]).map V.int ++ [.int (j : Nat)])) np2
          have hp10 : SqT K (upd H9 p2 (.tup ((place ++ [(i : Int)]).map V.int ++ [.int (j : Nat)]))) p2 ((place ++ [(i : Int)] ++ [(j : Int)]).map V.int) := stt (by rw [upd_same, List.map_append (l₁ := place ++ [(i : Int)])]; rfl)
          generalize upd H9 p2 (.tup ((place ++ [(i : Int)]).map V.int ++ [.int (j : Nat)])) = H10 at s10 hp10 ⊢
          have s810 := s9.trans s10
          have sA := hps'.trans s810
          refine ⟨_, rfl, _, rfl, _, rfl, ra, ar, V.str z :: rxs, z, homeD (.tuple (.str z :: ds)), lastD (.tuple (.str z :: ds)), ps, rfl, (s78.trans s810).sqt rx6, rfl, har.same sA, by omega, ao.1, ao.2, fun ar' H11 s11 har' => ?_⟩
          have la := around_len z (homeD (.tuple (.str z :: ds))) (lastD (.tuple (.str z :: ds))) ps
          refine ⟨_, rfl, bb, p2, kn, ar', rb, _, cs, ls, hs, _, _, rfl, (s810.trans s11).dp hb8, gb, by omega, hkn.same (sA.trans s11), har', s11.sqt hp10, by rw [List.length_append, List.length_append, List.length_singleton, List.length_singleton]; omega, by rw [List.length_append, List.length_append, List.length_singleton, List.length_singleton]; omega, by omega, by omega, fun v H12 s12 hres => ?_⟩
          have egj : g j (.tuple rb) = wrongD cs ls hs m rb (place ++ [(i : Int)] ++ [(j : Int)]) (aroundP z (homeD (.tuple (.str z :: ds))) (lastD (.tuple (.str z :: ds))) ps) (oft + oftD (.tuple (.str z :: ds))) := by
            rw [← hg]
            dsimp only
            rw [← erb]
            rfl
          rw [← egj] at hres
          have sB := (s810.trans s11).trans s12
          refine ⟨_, rfl, rfl, _, rfl, ?_⟩
          generalize g j (.tuple rb) = r at eg hres
          cases r with
          | none =>
            cases hres
            refine ite0 rfl ?_
            exact ⟨⟨_, _, _, rfl⟩, s78.trans sB, eg⟩
          | some pp =>
            obtain ⟨t, rfl, ht⟩ := hres
            refine ite1 rfl ⟨_, rfl, ?_⟩
            refine q _ H12 (hps'.trans sB) ?_
            rw [eW, ← ef, ← eg]
            exact ⟨t, rfl, ht⟩
        · rintro σ H7 ⟨⟨y9, y10, y11, rfl⟩, s7, eg⟩
          rw [List.drop_of_length_le (by omega)] at eg
          rw [← eg] at ef
          exact ⟨⟨_, _, _, _, _, _, _, rfl⟩, s46.trans s7, ef⟩
    · rintro σ H2 ⟨⟨y5, y6, y7, y8, y9, y10, y11, rfl⟩, s2, ef⟩
      refine q .non H2 s2 ?_
      rw [eW, ← ef, List.drop_of_length_le (by omega)]
      rfl
end
end TP
namespace TP
open PySem PySem.Spec PyProof.Rows L2 HX HB HG HU HH HD HS
def flatF {α β : Type} (f : Nat → α → List β) : Nat → List α → List β
  | _, [] => []
  | i, x :: xs => f i x ++ flatF f (i + 1) xs
def placesD : Nat → List PyData → List Int → List (List Int)
  | 0, _, _ => []
  | n + 1, rows, place => flatF (fun i row => (place ++ [(i : Int)]) :: flatF (fun j b => placesD n (rowsD b) (place ++ [(i : Int)] ++ [(j : Int)])) 0 (bodiesD row)) 0 rows
theorem flatF_at {α β : Type} (f : Nat → α → List β) {xs : List α} {i : Nat} (h : i < xs.length) : flatF f i (xs.drop i) = f i xs[i] ++ flatF f (i + 1) (xs.drop (i + 1)) := by
  rw [List.drop_eq_getElem_cons h]
  rfl
theorem firstSome_none {α β : Type} {f : Nat → α → Option β} : ∀ {xs : List α} {i : Nat}, firstSome f i xs = none → ∀ k (h : k < xs.length), f (i + k) xs[k] = none
  | [], _, _, k, h => by cases h
  | x :: xs, i, e, k, h => by
    simp only [firstSome] at e
    cases ef : f i x with
    | some b => rw [ef] at e; cases e
    | none =>
      rw [ef] at e
      cases k with
      | zero => exact ef
      | succ k =>
        have := firstSome_none e k (by simpa using h)
        rw [show i + (k + 1) = i + 1 + k by omega]
        exact this
theorem rowF_none {cs ls hs : List Str} {n : Nat} {place : List Int} {ps : List (Str × Str)} {oft : Int} {i : Nat} {row : PyData} (h : rowF cs ls hs n place ps oft i row = none) : isRowD cs ls hs ps row = true ∧ place.length + 1 ≤ 19 ∧
    firstSome (fun j b => wrongD cs ls hs n (rowsD b) (place ++ [(i : Int)] ++ [(j : Int)]) (arD row ps) (oft + oftD row)) 0 (bodiesD row) = none := by
  unfold rowF at h
  split at h
  · cases h
  · rename_i h1
    split at h
    · cases h
    · refine ⟨?_, ?_, h⟩
      · cases e : isRowD cs ls hs ps row with
        | true => rfl
        | false => exact absurd (.inr e) h1
      · have : ¬ 19 < place.length + 1 := fun e => h1 (.inl e)
        omega
theorem sqt_set {K : PySem.W.Frag} {H : Hp} {t l : Addr} {xs ys zs : List V} (h : SqT K H t xs) (e : H l = some (.lst ys)) : SqT K (upd H l (.lst zs)) t xs := by
  rcases h with (h | ⟨o, h⟩) | h
  · exact .inl (.inl (by rw [upd_ne (fun q => by subst q; rw [e] at h; cases h)]; exact h))
  · exact .inl (.inr ⟨o, by rw [upd_ne (fun q => by subst q; rw [e] at h; cases h)]; exact h⟩)
  · exact .inr h
section
variable {P : Program} {w : World} {K : PySem.W.Frag} {mg : Str → Option Value} {base : Heap}
def PL (K : PySem.W.Frag) (H : Hp) (vs : List V) (ps : List (List Int)) : Prop := Paired (fun v p => ∃ t : Addr, v = .ref t ∧ SqT K H t (p.map V.int)) vs ps
theorem PL.same {K : PySem.W.Frag} {H H' : Hp} {vs : List V} {ps : List (List Int)} (h : PL K H vs ps) (s : Same H H') : PL K H' vs ps := paired_imp (fun _ _ ⟨t, e, h⟩ => ⟨t, e, s.sqt h⟩) h
theorem PL.set {K : PySem.W.Frag} {H : Hp} {vs : List V} {ps : List (List Int)} {l : Addr} {ys zs : List V} (h : PL K H vs ps) (e : H l = some (.lst ys)) : PL K (upd H l (.lst zs)) vs ps := paired_imp (fun _ _ ⟨t, e1, h⟩ => ⟨t, e1, sqt_set h e⟩) h
theorem paired_app {α β : Type} {F : α → β → Prop} : ∀ {l : List α} {m : List β} {l2 : List α} {m2 : List β}, Paired F l m → Paired F l2 m2 → Paired F (l ++ l2) (m ++ m2)
  | _, _, _, _, .nil, h => h
  | _, _, _, _, .cons x t, h => .cons x (paired_app t h)
theorem paired_len {α β : Type} {F : α → β → Prop} : ∀ {l : List α} {m : List β}, Paired F l m → l.length = m.length
  | _, _, .nil => rfl
  | _, _, .cons x t => by rw [List.length_cons, List.length_cons, paired_len t]
def spPlaces (K : PySem.W.Frag) (N n : Nat) : Sp := fun vs H Q _ => ∃ (b pl : Addr) (rows : List PyData) (place : List Int) (cs ls hs : List Str) (ps : List (Str × Str)) (oft : Int), vs = [.ref b, .ref pl] ∧
  Dp K H (.ref b) (.tuple rows) ∧ Good (.tuple rows) n ∧ n ≤ N ∧ SqT K H pl (place.map V.int) ∧ place.length ≤ 20 ∧ wrongD cs ls hs n rows place ps oft = none ∧ (placesD n rows place).length ≤ sizeLine ∧
  ∀ (l : Addr) H' vs, Same H H' → H' l = some (.lst vs) → H l = none → PL K H' vs (placesD n rows place) → Q (.ref l) H'
theorem ok_places (T : Tp K w mg) (N : Nat) (hN : N ≤ 64) : ∀ n, FnOk P w K mg base CX0 (n + 2 + 1) T.f_places T.fd_places ["body", "place"] (spPlaces K N n) := rec_fn (c := 2) (sp := spPlaces K N) fun n ih => by
  refine T.D_places.F.ok sc_places (fun vs H Q E h => ?_) (fun cdv A outer s H vs Q E hr h => ?_)
  · obtain ⟨b, pl, rows, place, cs, ls, hs, ps, oft, rfl, _⟩ := h
    rfl
  · obtain ⟨b, pl, rows, place, cs, ls, hs, ps, oft, rfl, hd, good, hnN, hpl, hp20, hno, hsz, q⟩ := h
    refine ⟨_, (pss_cons (ps_set (i := 2) sc_places.nd rfl (.inl rfl) (pe_lst pa_nil))
  (pss_cons (ps_for PassesOwn.never rfl (HE.pi_enumT (by rfl) T.enumerate (pa_cons (pv 0) pa_nil)) (pg_tup rfl (pgs_cons (pg_name (i := 3) sc_places.nd rfl (.inl rfl)) (pgs_cons (pg_name (i := 4) sc_places.nd rfl (.inl rfl)) pgs_nil)))
  (Evl.pss_cut (ps_set (i := 5) sc_places.nd rfl (.inl rfl) (pe_op HT2.op_catA (pv 1) (pe_tup (pa_cons (pv 3) pa_nil))))
  (pss_cons (ps_expr (pe_bm PySem.F.plainAttrs_list PySem.F.slot_list_append PySem.F.type_list_append mt_append (pv 2) (pa_cons (pv 5) pa_nil)))
  (pss_one (ps_for PassesOwn.never rfl (pi_enum (by rfl) T.enumerate (pa_cons (pcall T.D_bodies (ok_bodies T) (hr.mono (by omega)) (by rfl) (pa_cons (pv 4) pa_nil)) pa_nil)) (pg_tup rfl (pgs_cons (pg_name (i := 6) sc_places.nd rfl (.inl rfl)) (pgs_cons (pg_name (i := 7) sc_places.nd rfl (.inl rfl)) pgs_nil)))
  (pss_one (ps_expr (pe_bm PySem.F.plainAttrs_list PySem.F.slot_list_extend PySem.F.type_list_extend mt_extend (pv 2) (pa_cons (pcall T.D_places ih (hr.mono (by omega)) (by rfl) (pa_cons (pv 7) (pa_cons (pe_op HT2.op_catA (pv 5) (pe_tup (pa_cons (pv 6) pa_nil))) pa_nil))) pa_nil)))))))))
  (pss_one (ps_ret (pv 2))))), ?_⟩
    obtain ⟨m, rfl⟩ : ∃ m, n = m + 1 := by
      have := good.dep
      simp only [PyData.depth] at this
      exact ⟨n - 1, by omega⟩
    obtain ⟨b', xs, e, hx, hall⟩ := dp_tup hd
    cases e
    have lx : xs.length = rows.length := dpAll_len hall
    have eW : wrongD cs ls hs (m + 1) rows place ps oft = firstSome (rowF cs ls hs m place ps oft) 0 rows := rfl
    rw [eW] at hno
    have hno := firstSome_none hno
    generalize hF : (fun (i : Nat) (row : PyData) => (place ++ [(i : Int)]) :: flatF (fun j b => placesD m (rowsD b) (place ++ [(i : Int)] ++ [(j : Int)])) 0 (bodiesD row)) = F
    have eP : placesD (m + 1) rows place = flatF F 0 rows := by rw [← hF]; rfl
    rw [eP] at hsz q
    refine ⟨Nat.zero_le _, fun l nl => ⟨_, rfl, b, xs, rfl, (same_upd nl).sqt hx, for_it (HE.walk_enumT (xs := xs)) (fun i σ H2 => (∃ y3 y4 y5 y6 y7, σ = [some (.ref b), some (.ref pl), some (.ref l), y3, y4, y5, y6, y7]) ∧ Same H H2 ∧ ∃ vs acc, H2 l = some (.lst vs) ∧ PL K H2 vs acc ∧ acc ++ flatF F i (rows.drop i) = flatF F 0 rows) ?_ ?_ ?_ ?_⟩⟩
    · exact ⟨⟨_, _, _, _, _, rfl⟩, same_upd nl, [], [], upd_same, .nil, by rw [List.drop_zero]; rfl⟩
    · rintro i σ H2 _ ⟨_, s2, _⟩
      exact s2.sqt hx
    · rintro i x σ H2 H3 hi ⟨⟨y3, y4, y5, y6, y7, rfl⟩, s2, fs, acc, hl2, hpl2, ef⟩ ⟨Tt, x1, x2, rfl, nT, rfl, g1, g2⟩
      cases g1
      dsimp only at g2
      rw [List.getElem?_eq_getElem hi] at g2
      cases g2
      have hi2 : i < rows.length := by omega
      have sT := same_upd (o := .tup [.int (i : Nat), xs[i]]) nT
      refine ⟨Tt, _, rfl, stt upd_same, rfl, _, _, rfl, _, _, rfl, rfl, ?_⟩
      have hl3 := sT _ _ hl2
      have hpl3 := hpl2.same sT
      have s3 := s2.trans sT
      generalize upd H2 Tt (.tup [.int (i : Nat), xs[i]]) = H3 at s3 hl3 hpl3 ⊢
      rw [flatF_at _ hi2] at ef
      have hni := hno i hi2
      rw [Nat.zero_add] at hni
      obtain ⟨er, hlen, hno2⟩ := rowF_none hni
      have hrow := dpAll_at hall hi hi2
      have grow : Good rows[i] m := good.item (List.getElem_mem hi2)
      generalize rows[i] = row at ef hrow grow er hno2
      generalize xs[i] = xr at hrow ⊢
      obtain ⟨z, ks, ds, R⟩ := row_ok er
      obtain rfl := R.eq
      obtain ⟨ra, rxs, rfl, rx, rall⟩ := dp_tup hrow
      cases rall with
      | cons pz rall =>
      cases pz
      rename_i rxs
      have eb : bodiesD (.tuple (.str z :: ds)) = bodiesV ks ds := by
        show (match kindsOf z with | some ks => _ | none => _) = _
        rw [R.ks_]
      have eF : F i (.tuple (.str z :: ds)) = (place ++ [(i : Int)]) :: flatF (fun j b => placesD m (rowsD b) (place ++ [(i : Int)] ++ [(j : Int)])) 0 (bodiesV ks ds) := by
        rw [← hF]
        dsimp only
        rw [eb]
      rw [eF] at ef
      rw [eb] at hno2
      have hno2 := firstSome_none hno2
      generalize hg : (fun (j : Nat) (b : PyData) => placesD m (rowsD b) (place ++ [(i : Int)] ++ [(j : Int)])) = g at ef
      refine ⟨fun σ H4 => ∃ (hh : Addr), (∃ y6 y7, σ = [some (.ref b), some (.ref pl), some (.ref l), some (.int (i : Nat)), some (.ref ra), some (.ref hh), y6, y7]) ∧ Same H3 H4 ∧ SqT K H4 hh ((place ++ [(i : Int)]).map V.int), ?_, ?_⟩
      · refine ⟨_, rfl, _, rfl, by show 1 ≤ sizeLine; decide, fun p np => ?_⟩
        have s4 := same_upd (o := .tup [.int (i : Nat)]) np
        have hp : (upd H3 p (.tup [.int (i : Nat)])) p = some (.tup [.int (i : Nat)]) := upd_same
        generalize upd H3 p (.tup [.int (i : Nat)]) = H4 at s4 hp ⊢
        refine ⟨pl, p, _, _, rfl, rfl, (s3.trans s4).sqt hpl, stt hp, by rw [List.length_map]; exact Evl.sz_of (by show place.length + 1 ≤ _; omega), fun e => ?_, (fun _ e => nomatch e), fun _ _ p2 np2 => ?_⟩
        · have e0 : place = [] := by cases place <;> first | rfl | cases e
          subst e0
          exact ⟨p, ⟨_, _, rfl⟩, s4, stt hp⟩
        · have s5 := same_upd (o := .tup (place.map V.int ++ [.int (i : Nat)])) np2
          exact ⟨p2, ⟨_, _, rfl⟩, s4.trans s5, stt (by rw [upd_same, List.map_append]; rfl)⟩
      rintro σ H4 ⟨hh, ⟨y6, y7, rfl⟩, s34, hhh⟩
      have hl4 := s34 _ _ hl3
      have hpl4 := hpl3.same s34
      have s4 := s3.trans s34
      have lfs : fs.length = acc.length := paired_len hpl3
      have hn4 : Same H (upd H4 l (.lst (fs ++ [.ref hh]))) := s4.own nl
      refine ⟨_, rfl, .inl ⟨rfl, _, sl hl4⟩, _, rfl, l, fs, .ref hh, rfl, rfl, hl4, ?_, ?_⟩
      · rw [lfs]
        refine Nat.lt_of_lt_of_le ?_ hsz
        rw [← ef, List.length_append, List.length_append, List.length_cons]
        omega
      have hl5 : (upd H4 l (.lst (fs ++ [.ref hh]))) l = some (.lst (fs ++ [.ref hh])) := upd_same
      have hpl5 : PL K (upd H4 l (.lst (fs ++ [.ref hh]))) (fs ++ [.ref hh]) (acc ++ [place ++ [(i : Int)]]) := paired_app (hpl4.set hl4) (.cons ⟨hh, rfl, sqt_set hhh hl4⟩ .nil)
      have hhh5 : SqT K (upd H4 l (.lst (fs ++ [.ref hh]))) hh ((place ++ [(i : Int)]).map V.int) := sqt_set hhh hl4
      generalize upd H4 l (.lst (fs ++ [.ref hh])) = H5 at hn4 hl5 hpl5 hhh5 ⊢
      refine ⟨_, rfl, ra, z, ks, rxs, rfl, hn4.sqt rx, R.ks_, fun lp H6 nlp s6 hlp => ?_⟩
      have s06 := hn4.trans s6
      have hb6 := dpAll_bodies ks rall
      have lb : (bodiesV ks rxs).length = (bodiesV ks ds).length := dpAll_len hb6
      have nll : l ≠ lp := fun e => by subst e; rw [hl5] at nlp; cases nlp
      refine ⟨lp, bodiesV ks rxs, rfl, sl hlp, for_it (walk_enum (xs := bodiesV ks rxs)) (fun j σ H7 => (∃ y6 y7, σ = [some (.ref b), some (.ref pl), some (.ref l), some (.int (i : Nat)), some (.ref ra), some (.ref hh), y6, y7]) ∧ Same H H7 ∧ H7 lp = some (.lst (bodiesV ks rxs)) ∧ SqT K H7 hh ((place ++ [(i : Int)]).map V.int) ∧ ∃ vs acc2, H7 l = some (.lst vs) ∧ PL K H7 vs acc2 ∧ acc2 ++ flatF g j ((bodiesV ks ds).drop j) = acc ++ (place ++ [(i : Int)]) :: flatF g 0 (bodiesV ks ds)) ?_ ?_ ?_ ?_⟩
      · exact ⟨⟨_, _, rfl⟩, s06, hlp, s6.sqt hhh5, _, _, s6 _ _ hl5, hpl5.same s6, by rw [List.drop_zero, List.append_assoc]; rfl⟩
      · rintro j σ H7 _ ⟨_, _, h7, _⟩
        exact sl h7
      · rintro j x σ H7 H8 hj ⟨⟨y6, y7, rfl⟩, s7, hlp7, hhh7, fs7, acc7, hl7, hpl7, ef7⟩ ⟨T2, x1, x2, rfl, nT2, rfl, g1, g2⟩
        cases g1
        dsimp only at g2
        rw [List.getElem?_eq_getElem hj] at g2
        cases g2
        have hj2 : j < (bodiesV ks ds).length := by omega
        have sT2 := same_upd (o := .tup [.int (j : Nat), (bodiesV ks rxs)[j]]) nT2
        refine ⟨T2, _, rfl, stt upd_same, rfl, _, _, rfl, _, _, rfl, rfl, ?_⟩
        rw [flatF_at _ hj2] at ef7
        have hl8 := sT2 _ _ hl7
        have hlp8 := sT2 _ _ hlp7
        have hpl8 := hpl7.same sT2
        have hhh8 := sT2.sqt hhh7
        have s8 := s7.trans sT2
        generalize upd H7 T2 (.tup [.int (j : Nat), (bodiesV ks rxs)[j]]) = H8 at s8 hl8 hlp8 hpl8 hhh8 ⊢
        have hbm : (bodiesV ks ds)[j] ∈ bodiesV ks ds := List.getElem_mem hj2
        have ebt := bodies_parts (P := fun d => d = .tuple (rowsD d)) (fun q hq hk => part_body (by have := R.parts q hq; rw [hk] at this; exact this)) _ hbm
        have gb : Good (bodiesV ks ds)[j] m := by
          obtain ⟨m', hm⟩ : ∃ m', m = m' + 1 := by
            have := grow.dep
            simp only [PyData.depth] at this
            exact ⟨m - 1, by omega⟩
          subst hm
          exact (grow.item (List.mem_cons_of_mem _ (bodiesV_mem hbm))).mono (by omega)
        have hb8 := dpAll_at hb6 hj hj2
        have hnj := hno2 j hj2
        rw [Nat.zero_add] at hnj
        have egj : g j (bodiesV ks ds)[j] = placesD m (rowsD (bodiesV ks ds)[j]) (place ++ [(i : Int)] ++ [(j : Int)]) := by rw [← hg]
        rw [egj] at ef7
        generalize (bodiesV ks ds)[j] = b0 at hb8 ef7 ebt gb hnj
        generalize (bodiesV ks rxs)[j] = vb at hb8 ⊢
        generalize rowsD b0 = rb at ebt hnj ef7
        subst ebt
        obtain ⟨bb, bxs, rfl, _, _⟩ := dp_tup (id hb8)
        refine ⟨_, rfl, .inl ⟨rfl, _, sl hl8⟩, _, rfl, _, rfl, _, rfl, by show 1 ≤ sizeLine; decide, fun p np => ?_⟩
        have s9 := same_upd (o := .tup [.int (j : Nat)]) np
        have hp9 : (upd H8 p (.tup [.int (j : Nat)])) p = some (.tup [.int (j : Nat)]) := upd_same
        generalize upd H8 p (.tup [.int (j : Nat)]) = H9 at s9 hp9 ⊢
        refine ⟨hh, p, _, _, rfl, rfl, s9.sqt hhh8, stt hp9, by rw [List.length_map, List.length_append, List.length_singleton]; exact Evl.sz_of (by show place.length + 1 + 1 ≤ _; omega), (fun e => by simp at e), (fun _ e => nomatch e), fun _ _ p2 np2 => ?_⟩
        have s10 := same_upd (o := .tup ((place ++ [(i : Int)]).map V.int ++ [.int (j : Nat)])) np2
        have hp10 : SqT K (upd H9 p2 (.tup ((place ++ [(i : Int)]).map V.int ++ [.int (j : Nat)]))) p2 ((place ++ [(i : Int)] ++ [(j : Int)]).map V.int) := stt (by rw [upd_same, List.map_append (l₁ := place ++ [(i : Int)])]; rfl)
        generalize upd H9 p2 (.tup ((place ++ [(i : Int)]).map V.int ++ [.int (j : Nat)])) = H10 at s10 hp10 ⊢
        have s810 := s9.trans s10
        have sA := s8.trans s810
        have hlen7 : acc7.length + (placesD m rb (place ++ [(i : Int)] ++ [(j : Int)])).length ≤ sizeLine := by
          refine Nat.le_trans ?_ hsz
          rw [← ef]
          have := congrArg List.length ef7
          simp only [List.length_append, List.length_cons] at this ⊢
          omega
        refine ⟨bb, p2, rb, _, cs, ls, hs, _, _, rfl, sA.dp hb8, gb, by omega, hp10, by rw [List.length_append, List.length_append, List.length_singleton, List.length_singleton]; omega, hnj, by omega, fun lr H11 vs s11 hlr nlr hplr => ?_⟩
        have hl11 := s11 _ _ (s810 _ _ hl8)
        have nlr2 : lr ≠ l := fun e => by subst e; rw [s810 _ _ hl8] at nlr; cases nlr
        have s811 := s810.trans s11
        refine ⟨l, lr, fs7, vs, rfl, rfl, hl11, hlr, ?_, ?_⟩
        · rw [paired_len hpl8, paired_len hplr]
          exact hlen7
        refine ⟨⟨_, _, rfl⟩, (s8.trans s811).own nl, ?_, sqt_set (s811.sqt hhh8) hl11, _, acc7 ++ placesD m rb (place ++ [(i : Int)] ++ [(j : Int)]), upd_same, paired_app ((hpl8.same s811).set hl11) (hplr.set hl11), ?_⟩
        · rw [upd_ne (fun e => nll e.symm)]
          exact s811 _ _ hlp8
        · rw [List.append_assoc]
          exact ef7
      · rintro σ H7 ⟨⟨y6, y7, rfl⟩, s7, hlp7, hhh7, fs7, acc7, hl7, hpl7, ef7⟩
        rw [List.drop_of_length_le (by omega)] at ef7
        refine ⟨⟨_, _, _, _, _, rfl⟩, s7, fs7, acc7, hl7, hpl7, ?_⟩
        rw [show acc7 = acc7 ++ flatF g (bodiesV ks rxs).length [] from (List.append_nil _).symm, ef7, ← ef, List.append_assoc]
    · rintro σ H2 ⟨⟨y3, y4, y5, y6, y7, rfl⟩, s2, fs, acc, hl2, hpl2, ef⟩
      rw [List.drop_of_length_le (by omega)] at ef
      refine ⟨_, rfl, q l H2 fs s2 hl2 nl ?_⟩
      rw [← ef]
      exact (List.append_nil acc).symm ▸ hpl2
end
end TP
namespace TP
open PySem PySem.Spec PyProof.Rows L2 HX HB HG HU HH HD HS
section
variable {P : Program} {w : World} {K : PySem.W.Frag} {mg : Str → Option Value} {base : Heap}
def firstD (cs ls hs : List Str) (n : Nat) : PyData → Option (List Int)
  | .tuple rows => wrongD cs ls hs n rows [] [] 0
  | _ => some []
theorem merge3 (x y z : V) : mergeK [] [((Sum.inr "cell" : Key), x), (Sum.inr "lock", y), (Sum.inr "channel", z)] = ([(Sum.inr "cell", x), (Sum.inr "lock", y), (Sum.inr "channel", z)] : List (Key × V)) := rfl
def spFirst (K : PySem.W.Frag) (N : Nat) : Sp := fun vs H Q _ => ∃ (v : V) (d : PyData) (c l h : Addr) (cs ls hs : List Str), vs = [v, .ref c, .ref l, .ref h] ∧
  Dp K H v d ∧ Good d N ∧ SqT K H c (cs.map V.str) ∧ SqT K H l (ls.map V.str) ∧ SqT K H h (hs.map V.str) ∧
  ∀ v H', Same H H' → Res K H' (firstD cs ls hs N d) v → Q v H'
theorem ok_first (T : Tp K w mg) (N : Nat) (hN : N ≤ 64) : FnOk P w K mg base CX0 (N + (N + 4) + 2) T.f_first T.fd_first ["body", "cells", "locks", "channels"] (spFirst K N) := by
  refine T.D_first.ok sc_first (fun vs H Q E h => ?_) (fun cdv A outer s H vs Q E hr h => ?_)
  · obtain ⟨v, d, c, l, h, cs, ls, hs, rfl, _⟩ := h
    rfl
  · obtain ⟨v, d, c, l, h, cs, ls, hs, rfl, hd, good, hc, hl, hh, q⟩ := h
    refine ⟨_, (pss_cons (ps_if (pt_not (pt_val (pe_callB call_isi (by rfl) T.isinstance (by decide +kernel) (pa_cons (pv 0) (pa_cons (pe_bltn (v := .ty "tuple") (by rfl) T.tuple (by decide +kernel) rfl) pa_nil)))))
  (pss_one (ps_ret (pe_tup pa_nil)))
  pss_nil)
  (pss_one (ps_ret (pcall T.D_wrong (ok_wrong T N hN N) (hr.mono (by omega)) (by rfl) (pa_cons (pv 0) (pa_cons (pe_tup pa_nil) (pa_cons (pe_disp (pps_cons pe_str (pv 1) (pps_cons pe_str (pv 2) (pps_cons pe_str (pv 3) pps_nil))) (by rfl) (by rfl) (fun z => by cases z) (by decide)) (pa_cons (pe_tup pa_nil) (pa_cons pe_int pa_nil))))))))), ?_⟩
    obtain ⟨ty, kin⟩ := dp_ty hd
    refine ⟨_, rfl, _, _, _, _, _, rfl, .ty "tuple", ty, kit_dat (by decide) kin, _, rfl, ?_⟩
    by_cases ht : kindD d = "tuple"
    · refine ite0 (by rw [decide_eq_true ht]; rfl) ?_
      obtain ⟨ds, rfl⟩ : ∃ ds, d = .tuple ds := by cases d <;> simp [kindD] at ht ⊢
      obtain ⟨a, xs, rfl, hx, hall⟩ := dp_tup hd
      refine ⟨_, rfl, Nat.zero_le _, fun p np => ?_⟩
      have s1 := same_upd (o := .tup []) np
      have hp : (upd H p (.tup [])) p = some (.tup []) := upd_same
      generalize upd H p (.tup []) = H1 at s1 hp ⊢
      intro kd nkd
      have s2 := s1.trans (same_upd (o := .dK []) nkd)
      have hp2 := (same_upd (o := .dK []) nkd) _ _ hp
      have hkd : (upd H1 kd (.dK [])) kd = some (.dK []) := upd_same
      generalize hH2 : upd H1 kd (.dK []) = H2 at s2 hp2 hkd ⊢
      have nkH : H kd = none := s1.free nkd
      refine ⟨_, rfl, _, rfl, _, rfl, hkd, [(Sum.inr "cell", .ref c), (Sum.inr "lock", .ref l), (Sum.inr "channel", .ref h)], rfl, by show 3 ≤ 15; decide, ?_⟩
      have s3 : Same H (upd H2 kd (.dK [(Sum.inr "cell", .ref c), (Sum.inr "lock", .ref l), (Sum.inr "channel", .ref h)])) := s2.own nkH
      have hk3 : (upd H2 kd (.dK [(Sum.inr "cell", .ref c), (Sum.inr "lock", .ref l), (Sum.inr "channel", .ref h)])) kd = some (.dK [(Sum.inr "cell", .ref c), (Sum.inr "lock", .ref l), (Sum.inr "channel", .ref h)]) := upd_same
      have hp3 : (upd H2 kd (.dK [(Sum.inr "cell", .ref c), (Sum.inr "lock", .ref l), (Sum.inr "channel", .ref h)])) p = some (.tup []) := by rw [upd_ne (fun e => by subst e; rw [hkd] at hp2; cases hp2)]; exact hp2
      rw [merge3]
      generalize upd H2 kd (.dK [(Sum.inr "cell", .ref c), (Sum.inr "lock", .ref l), (Sum.inr "channel", .ref h)]) = H3 at s3 hk3 hp3 ⊢
      refine ⟨Nat.zero_le _, fun p2 np2 => ?_⟩
      have s34 := same_upd (o := .tup []) np2
      have hp24 : (upd H3 p2 (.tup [])) p2 = some (.tup []) := upd_same
      generalize upd H3 p2 (.tup []) = H4 at s34 hp24 ⊢
      have s4 := s3.trans s34
      refine ⟨a, p, kd, p2, ds, [], cs, ls, hs, [], 0, rfl, s4.dp hd, good, Nat.le_refl _, ⟨c, l, h, s34 _ _ hk3, s4.sqt hc, s4.sqt hl, s4.sqt hh⟩, ⟨⟨[], stt hp24, .nil⟩, Nat.zero_le _⟩, s34.sqt (stt hp3), Nat.zero_le _, Nat.zero_le _, by decide, by decide, fun v H5 s5 hr => q v H5 (s4.trans s5) hr⟩
    · refine ite1 (by rw [decide_eq_false ht]; rfl) ?_
      refine ⟨Nat.zero_le _, fun p np => q _ _ (same_upd np) ?_⟩
      have e : firstD cs ls hs N d = some [] := by cases d <;> first | rfl | exact absurd rfl ht
      rw [e]
      exact ⟨p, rfl, stt upd_same⟩
end
end TP
namespace TP
open PySem PySem.Spec PyProof.Rows L2 HX HB HG HU HH HD HS
section
variable {P : Program} {w : World} {K : PySem.W.Frag} {mg : Str → Option Value} {base : Heap}
def sizesD (l u : Int) (kvs : List (Str × Int)) : Bool := decide (kvs.length ≤ 4) && kvs.all fun q => isNameL q.1 && decide (l ≤ q.2 ∧ q.2 ≤ u)
def spSizes (K : PySem.W.Frag) : Sp := fun vs H Q _ => ∃ (a : Addr) (kvs : List (Str × Int)) (l u : Int), vs = [.ref a, .int l, .int u] ∧
  H a = some (.dK (kvs.map fun q => (Sum.inr q.1, V.int q.2))) ∧ (kvs.map (·.1)).Nodup ∧ kvs.length ≤ 100 ∧ (∀ q ∈ kvs, okD (.str q.1) = true ∧ okD (.int q.2) = true) ∧
  ∀ H', Same H H' → Q (.bl (sizesD l u kvs)) H'
theorem ok_sizes (T : Tp K w mg) : FnOk P w K mg base CX0 3 T.f_sizes T.fd_sizes ["thing", "least", "most"] (spSizes K) := by
  refine T.D_sizes.F.ok sc_sizes (fun vs H Q E h => ?_) (fun cdv A outer s H vs Q E hr h => ?_)
  · obtain ⟨a, kvs, l, u, rfl, _⟩ := h
    rfl
  · obtain ⟨a, kvs, l, u, rfl, ha, hnd, hz, hok, q⟩ := h
    refine ⟨_, (pss_cons (ps_if (PW.pt (pw_or (pt_not (pt_val (pe_callB call_isi (by rfl) T.isinstance (by decide +kernel) (pa_cons (pv 0) (pa_cons (pe_bltn (v := .ty "dict") (by rfl) T.dict (by decide +kernel) rfl) pa_nil))))) (pw_or1 (pt_cmpR op_gt (pe_callB call_lenD (by rfl) T.len PySem.boot_len (pa_cons (pv 0) pa_nil)) (pe_gi (by rfl) T.c_MOST_NAMES) (nomark _)))))
  (pss_one (ps_ret pe_bl))
  pss_nil)
  (pss_one (ps_ret (pe_callB (cr_all rfl) (by rfl) T.all (by decide +kernel) (pa_cons (pe_lock (pe_lc (own := [("name", 3), ("size", 4)]) (g := gTup K 2 (gCons (gName 3) (gCons (gName 4) gNil))) (by rfl) sc_sizes.nd (pi_items (pv 0)) (blkOk_by (own := [("name", 3), ("size", 4)]) (N := ["thing", "least", "most", "name", "size"]) (sc := defScope s_sizes) (by decide +kernel)) (fun _ _ _ _ _ => (pg_tup rfl (pgs_cons (pg_name (i := 3) sc_sizes.nd rfl (.inl rfl)) (pgs_cons (pg_name (i := 4) sc_sizes.nd rfl (.inl rfl)) pgs_nil)))) (fun _ _ _ _ _ => pts_nil) (fun _ _ _ _ _ => (pe_and (pcall T.D_isname (ok_isname T) (hr.mono (by decide)) (by rfl) (pa_cons (pv 3) pa_nil)) (pe_and (pcall T.D_isnum (ok_isnum T) (hr.mono (by decide)) (by rfl) (pa_cons (pv 4) pa_nil)) (pe_one (pe_chain op_le op_le (pv 1) (pv 4) (pv 2)))))))) pa_nil))))), ?_⟩
    have tyD : TyX K H (.ref a) (.type "dict") := .base (.dK ha)
    refine ⟨_, rfl, _, _, _, _, true, rfl, .ty "dict", tyD, kit_ty (by decide +kernel), _, rfl, ?_⟩
    refine ite0 rfl ⟨_, rfl, a, _, rfl, ha, _, _, rfl, rfl, _, rfl, ?_⟩
    rw [List.length_map]
    have eD : decide ((4 : Int) < (kvs.length : Nat)) = !decide (kvs.length ≤ 4) := by
      by_cases h : kvs.length ≤ 4
      · rw [decide_eq_true h, decide_eq_false (by omega)]; rfl
      · rw [decide_eq_false h, decide_eq_true (by omega)]; rfl
    refine ite2 (fun h4 => ?_) (fun h4 => ?_)
    · have h4 := of_decide_eq_true h4
      have e : sizesD l u kvs = false := by
        unfold sizesD
        rw [decide_eq_false (by omega : ¬ kvs.length ≤ 4)]
        rfl
      rw [e] at q
      exact q H (Same.refl _)
    · have h4 : kvs.length ≤ 4 := by
        have : ¬ (4 : Int) < (kvs.length : Nat) := fun z => h4 (decide_eq_true z)
        omega
      have e : sizesD l u kvs = kvs.all fun q => isNameL q.1 && decide (l ≤ q.2 ∧ q.2 ≤ u) := by
        unfold sizesD
        rw [decide_eq_true h4]
        rfl
      rw [e] at q
      refine ⟨a, _, ha, True.intro, fun od => ?_⟩
      refine ⟨_, rfl, a, od, _, rfl, upd_same, fun L nL => ?_⟩
      have LD : L ≠ a := fun e => by rw [e, upd_same] at nL; cases nL
      generalize eF : upd H a (.frz od (.dK (kvs.map fun q => (Sum.inr q.1, V.int q.2)))) = HF at nL ⊢
      have hDF : HF a = some (.frz od (.dK (kvs.map fun q => (Sum.inr q.1, V.int q.2)))) := by rw [← eF, upd_same]
      refine lc_it (walk_items (kvs := kvs.map fun q => (Sum.inr q.1, V.int q.2))) (fun i H6 => Same HF H6 ∧ H6 L = some (.lst (((kvs.take i).map fun q => isNameL q.1 && decide (l ≤ q.2 ∧ q.2 ≤ u)).map V.bl))) ⟨same_upd nL, upd_same⟩ (fun i H6 _ g => g.1 _ _ hDF) ?_ ?_
      · rintro i x H3 H6 hi ⟨sm, hL⟩ ⟨Tt, x1, x2, rfl, nT, rfl, g1, g2⟩
        have hi1 : i < kvs.length := by rw [List.length_map] at hi; exact hi
        dsimp only at g1 g2
        rw [List.getElem?_map, List.getElem?_eq_getElem hi1] at g1 g2
        cases g1
        cases g2
        have smT := same_upd (o := .tup [.str kvs[i].1, .int kvs[i].2]) nT
        have fin : ∀ H' b, Same H3 H' → b = (isNameL kvs[i].1 && decide (l ≤ kvs[i].2 ∧ kvs[i].2 ≤ u)) → ∃ acc, H' L = some (.lst acc) ∧ acc.length < sizeLine ∧ Same HF (upd H' L (.lst (acc ++ [V.bl b]))) ∧ (upd H' L (.lst (acc ++ [V.bl b]))) L = some (.lst (((kvs.take (i + 1)).map fun q => isNameL q.1 && decide (l ≤ q.2 ∧ q.2 ≤ u)).map V.bl)) := fun H' b s' eb => by
          refine ⟨_, s' _ _ hL, by rw [List.length_map, List.length_map]; exact small1000 (Nat.le_trans (List.length_take_le _ _) (by omega)), (sm.trans s').own nL, ?_⟩
          rw [upd_same, List.take_add_one, List.getElem?_eq_getElem hi1, List.map_append, List.map_append, eb]
          rfl
        refine ⟨Tt, _, rfl, stt upd_same, rfl, _, _, rfl, _, _, rfl, rfl, rfl, ?_⟩
        refine ⟨_, rfl, _, .str kvs[i].1, rfl, .str _, (hok _ (List.getElem_mem hi1)).1, fun H7 s7 => ⟨_, rfl, ?_⟩⟩
        show if isNameL kvs[i].1 = true then _ else _
        cases en : isNameL kvs[i].1 with
        | false => exact fin _ _ (smT.trans s7) (by rw [en]; rfl)
        | true =>
          refine ⟨_, rfl, _, .int kvs[i].2, rfl, .int _, (hok _ (List.getElem_mem hi1)).2, fun H8 s8 => ⟨_, rfl, ?_⟩⟩
          refine ⟨_, rfl, _, rfl, _, _, rfl, rfl, _, rfl, ?_⟩
          have s38 := (smT.trans s7).trans s8
          refine ite2 (fun hl => ?_) (fun hl => ?_)
          · have hl := of_decide_eq_true hl
            refine ⟨_, rfl, _, _, rfl, rfl, fin _ _ s38 ?_⟩
            rw [en, Bool.true_and]
            exact decide_eq_decide.mpr ⟨fun h => ⟨hl, h⟩, fun h => h.2⟩
          · refine fin _ _ s38 ?_
            rw [en, Bool.true_and, decide_eq_false (fun h => hl (decide_eq_true h.1))]
      · rintro H6 ⟨sm, hL⟩
        rw [List.length_map, List.take_length] at hL
        refine ⟨sm _ _ hDF, ?_⟩
        have sF : Same H (upd H6 a (.dK (kvs.map fun q => (Sum.inr q.1, V.int q.2)))) := fun b o e => by
          by_cases eb : b = a
          · subst eb; rw [upd_same]; rw [ha] at e; exact e
          · rw [upd_ne eb]
            refine sm b o ?_
            rw [← eF, upd_ne eb]
            exact e
        refine ⟨L, _, rfl, sl (by rw [upd_ne LD]; exact hL), ?_⟩
        rw [List.all_map]
        exact q _ sF
end
end TP
namespace TP
open PySem PySem.Spec PyProof.Rows L2 HX HB HG HU HH HD HS HV
section
variable {P : Program} {w : World} {K : PySem.W.Frag} {mg : Str → Option Value} {base : Heap}
def locksD (zs : List Str) : Bool := decide (zs.length ≤ 4) && (zs.all isNameL && decide zs.Nodup)
def spLocks (K : PySem.W.Frag) : Sp := fun vs H Q _ => ∃ (a : Addr) (zs : List Str), vs = [.ref a] ∧
  H a = some (.lst (zs.map V.str)) ∧ zs.length ≤ 100 ∧ (∀ z ∈ zs, okD (.str z) = true) ∧
  ∀ H', Same H H' → Q (.bl (locksD zs)) H'
theorem ok_locks (T : Tp K w mg) : FnOk P w K mg base CX0 3 T.f_locks T.fd_locks ["thing"] (spLocks K) := by
  refine T.D_locks.F.ok sc_locks (fun vs H Q E h => ?_) (fun cdv A outer s H vs Q E hr h => ?_)
  · obtain ⟨a, zs, rfl, _⟩ := h
    rfl
  · obtain ⟨a, zs, rfl, ha, hz, hok, q⟩ := h
    refine ⟨_, (pss_cons (ps_if (PW.pt (pw_or (pt_not (pt_val (pe_callB call_isi (by rfl) T.isinstance (by decide +kernel) (pa_cons (pv 0) (pa_cons (pe_bltn (v := .ty "list") (by rfl) T.list (by decide +kernel) rfl) pa_nil))))) (pw_or1 (pt_cmpR op_gt (pe_callB call_len_seq (by rfl) T.len PySem.boot_len (pa_cons (pv 0) pa_nil)) (pe_gi (by rfl) T.c_MOST_NAMES) (nomark _)))))
  (pss_one (ps_ret pe_bl))
  pss_nil)
  (pss_one (ps_ret (pe_and (pe_callB (cr_all rfl) (by rfl) T.all (by decide +kernel) (pa_cons (pe_lc (own := [("name", 1)]) (g := gName 1) (by rfl) sc_locks.nd (pi_list (pv 0)) (blkOk_by (own := [("name", 1)]) (N := ["thing", "name"]) (sc := defScope s_locks) (by decide +kernel)) (fun _ _ _ _ _ => (pg_name (i := 1) sc_locks.nd rfl (.inl rfl))) (fun _ _ _ _ _ => pts_nil) (fun _ _ _ _ _ => (pcall T.D_isname (ok_isname T) (hr.mono (by decide)) (by rfl) (pa_cons (pv 1) pa_nil)))) pa_nil)) (pe_one (pe_cmpR op_eq (HV.pe_lenSetS (by rfl) T.len (by rfl) T.set (pv 0)) (pe_callB call_len_seq (by rfl) T.len PySem.boot_len (pa_cons (pv 0) pa_nil)) (nomark _))))))), ?_⟩
    have tyD : TyX K H (.ref a) (.type "list") := .base (.lst ha)
    refine ⟨_, rfl, _, _, _, _, true, rfl, .ty "list", tyD, kit_ty (by decide +kernel), _, rfl, ?_⟩
    refine ite0 rfl ⟨_, rfl, a, _, rfl, .inl (sl ha), _, _, rfl, rfl, _, rfl, ?_⟩
    rw [List.length_map]
    refine ite2 (fun h4 => ?_) (fun h4 => ?_)
    · have h4 := of_decide_eq_true h4
      have e : locksD zs = false := by
        unfold locksD
        rw [decide_eq_false (by omega : ¬ zs.length ≤ 4)]
        rfl
      rw [e] at q
      exact q H (Same.refl _)
    · have h4 : zs.length ≤ 4 := by
        have : ¬ (4 : Int) < (zs.length : Nat) := fun z => h4 (decide_eq_true z)
        omega
      have e : locksD zs = (zs.all isNameL && decide zs.Nodup) := by
        unfold locksD
        rw [decide_eq_true h4]
        rfl
      rw [e] at q
      refine ⟨_, rfl, a, rfl, ⟨_, sl ha⟩, fun L nL => ?_⟩
      refine lc_it (walk_list (xs := zs.map V.str)) (fun i H6 => Same H H6 ∧ H6 L = some (.lst (((zs.take i).map isNameL).map V.bl))) ⟨same_upd nL, upd_same⟩ (fun i H6 _ g => sl (g.1 _ _ ha)) ?_ ?_
      · rintro i x H3 H6 hi ⟨sm, hL⟩ ⟨rfl, g1⟩
        have hi1 : i < zs.length := by rw [List.length_map] at hi; exact hi
        rw [List.getElem?_map, List.getElem?_eq_getElem hi1] at g1
        cases g1
        refine ⟨rfl, _, rfl, _, .str zs[i], rfl, .str _, hok _ (List.getElem_mem hi1), fun H7 s7 => ?_⟩
        refine ⟨_, s7 _ _ hL, by rw [List.length_map, List.length_map]; exact small1000 (Nat.le_trans (List.length_take_le _ _) (by omega)), (sm.trans s7).own nL, ?_⟩
        rw [upd_same, List.take_add_one, List.getElem?_eq_getElem hi1, List.map_append, List.map_append]
        rfl
      · rintro H6 ⟨sm, hL⟩
        rw [List.length_map, List.take_length] at hL
        refine ⟨L, _, rfl, sl hL, ?_⟩
        rw [List.all_map]
        refine ⟨_, rfl, ?_⟩
        have ec : zs.all ((fun v => (match v with | V.bl b => b | _ => false)) ∘ V.bl ∘ isNameL) = zs.all isNameL := rfl
        refine ite2 (fun h => ?_) (fun h => ?_)
        · refine ⟨_, rfl, a, zs, rfl, sl (sm _ _ ha), by omega, _, rfl, a, _, rfl, .inl (sl (sm _ _ ha)), ?_⟩
          refine ⟨rfl, ?_⟩
          have h : zs.all isNameL = true := h
          have eu : decide (V.int (uq zs zs.length : Nat) = V.int ((zs.map V.str).length : Nat)) = decide zs.Nodup := by
            have := uq_all (xs := zs) zs.length (Nat.le_refl _)
            rw [List.take_length] at this
            rw [List.length_map]
            exact decide_eq_decide.mpr ⟨fun e => this.mp (by have := V.int.inj e; omega), fun e => by rw [this.mpr e]⟩
          rw [eu]
          rw [h, Bool.true_and] at q
          exact q H6 sm
        · have h : zs.all isNameL = false := by
            cases e : zs.all isNameL with
            | true => exact absurd e h
            | false => rfl
          rw [h] at q
          exact q H6 sm
end
end TP
namespace TP
open PySem PySem.Spec PyProof.Rows L2 HX HB HG HU HH HD HS HV HQ
section
variable {P : Program} {w : World} {K : PySem.W.Frag} {mg : Str → Option Value} {base : Heap}
theorem ok_np (T : Tp K w mg) : FnOk P w K mg base CX0 1 T.f_np T.fd_np ["self", "place"] (spEx T.C_NoProgram "place") := by
  refine T.D_np.ok sc_np (fun vs H Q E h => ?_) (fun cdv A outer s H vs Q E hr h => ?_)
  · obtain ⟨a, y, rfl, _⟩ := h
    rfl
  · obtain ⟨a, y, rfl, ha, q⟩ := h
    refine ⟨_, (pss_cons (ps_expr (HY.pe_baseinit T.bs_YardError (by rfl) T.gC_YardError (pa_cons (pv 0) (pa_cons pe_str pa_nil))))
  (pss_one (ps_ost (pv 0) (pv 1)))), ?_⟩
    exact ⟨_, rfl, a, T.C_NoProgram, [.str "no program"], rfl, by decide, T.x_NoProgram, ha, _, rfl, _, rfl, a, T.C_NoProgram, rfl, T.x_NoProgram, T.na_NoProgram_place, .inl ⟨ha, q⟩⟩
theorem kb_first (T : Tp K w mg) : KBn K T.fd_first ["body", "cells", "locks", "channels"] 1 ["cells", "locks", "channels"] (fun us ws => us ++ ws) (fun vs zs => vs ++ zs) := by
  obtain ⟨mv, h⟩ := T.D_first.kbinds0 (ps := ["body", "cells", "locks", "channels"]) 1 ["cells", "locks", "channels"] [] (fun us _ ws => us ++ ws) (List.cons_ne_nil _ _) (fun q h => by cases h) (fun a _ c => a.append c)
    (fun D doc pm an cdv ct us mv ws h1 h2 h3 => match us, ws, mv, h1, h2, h3 with | [_], [_, _, _], [], _, _, _ => rfl)
  exact h
/-! ### a program -/
def dI (kvs : List (Str × Int)) : List (Key × V) := kvs.map fun q => (Sum.inr q.1, V.int q.2)
def ArgD (H : Hp) (v : V) (kvs : List (Str × Int)) : Prop := (v = .non ∧ kvs = []) ∨ ∃ a, v = .ref a ∧ H a = some (.dK (dI kvs))
def ArgL (H : Hp) (v : V) (zs : List Str) : Prop := (v = .non ∧ zs = []) ∨ ∃ a, v = .ref a ∧ H a = some (.lst (zs.map V.str))
structure OkD (kvs : List (Str × Int)) : Prop where
  nd : (kvs.map (·.1)).Nodup
  few : kvs.length ≤ 100
  ok : ∀ q ∈ kvs, okD (.str q.1) = true ∧ okD (.int q.2) = true
structure PObj (K : PySem.W.Frag) (H0 H : Hp) (p C : Addr) (b : V) (cs : List (Str × Int)) (ls : List Str) (ws : List (Str × Int)) (spots : List (List Int)) : Prop where
  ex : ∃ (dx s f l w : Addr) (vs : List V), H p = some (.ins C dx [("spots", .ref s), ("tree", b), ("first", .ref f), ("bolts", .ref l), ("widths", .ref w)]) ∧ H s = some (.lst vs) ∧ PL K H vs spots ∧ H f = some (.dK (dI cs)) ∧ H l = some (.lst (ls.map V.str)) ∧ H w = some (.dK (dI ws)) ∧ s ≠ l ∧ f ≠ w ∧ H0 s = none ∧ H0 f = none ∧ H0 l = none ∧ H0 w = none
def progD (N : Nat) (cs : List (Str × Int)) (ls : List Str) (ws : List (Str × Int)) (d : PyData) : Option (List Int) :=
  if sizesD (-99) 99 cs && (locksD ls && sizesD 1 4 ws) then
    match firstD (cs.map (·.1)) ls (ws.map (·.1)) N d with
    | some pl => some pl
    | none => if (placesD N (rowsD d) []).length ≤ 60 then none else some []
  else some []
/-- all but this instance stand -/
def V1 (p : Addr) (H H' : Hp) : Prop := ∀ b o, H b = some o → b ≠ p → H' b = some o
theorem V1.of {p : Addr} {H H' : Hp} (s : Same H H') : V1 p H H' := fun b o h _ => s b o h
theorem V1.trans {p : Addr} {H H' H'' : Hp} (a : V1 p H H') (s : Same H' H'') : V1 p H H'' := fun b o h e => s b o (a b o h e)
theorem V1.set {p : Addr} {H H' : Hp} (a : V1 p H H') {o : HO} : V1 p H (upd H' p o) := fun b x h e => by rw [upd_ne e]; exact a b x h e
theorem V1.free {p : Addr} {H H' : Hp} (v : V1 p H H') {b : Addr} (n : H' b = none) {o : HO} (hp : H' p = some o) : H b = none := by
  cases e : H b with
  | none => rfl
  | some x =>
    by_cases hb : b = p
    · subst hb; rw [hp] at n; cases n
    · rw [v b x e hb] at n; cases n
theorem sqt_kept {K : PySem.W.Frag} {H H' : Hp} (k : ∀ a o, H a = some o → (∀ C dx fs, o ≠ .ins C dx fs) → H' a = some o) {a : Addr} {xs : List V} (h : SqT K H a xs) : SqT K H' a xs := by
  rcases h with (h | ⟨o, h⟩) | h
  · exact .inl (.inl (k _ _ h (by intro _ _ _ z; cases z)))
  · exact .inl (.inr ⟨o, k _ _ h (by intro _ _ _ z; cases z)⟩)
  · exact .inr h
def spProg (K : PySem.W.Frag) (N : Nat) (C CE : Addr) : Sp := fun vs H Q E => ∃ (p dx : Addr) (b : V) (d : PyData) (vc vl vw : V) (cs : List (Str × Int)) (ls : List Str) (ws : List (Str × Int)), vs = [.ref p, b, vc, vl, vw] ∧
  H p = some (.ins C dx []) ∧ Dp K H b d ∧ Good d N ∧ ArgD H vc cs ∧ OkD cs ∧ ArgL H vl ls ∧ ls.length ≤ 100 ∧ (∀ z ∈ ls, okD (.str z) = true) ∧ ArgD H vw ws ∧ OkD ws ∧ (placesD N (rowsD d) []).length ≤ sizeLine ∧
  ∀ H', V1 p H H' → match progD N cs ls ws d with
    | some pl => ∀ t dd : Addr, SqT K H' t (pl.map V.int) → H' dd = some (.xd [("place", .ref t)]) → H dd = none → E (.ref CE) (some dd) H'
    | none => PObj K H H' p C b cs ls ws (placesD N (rowsD d) []) → Q .non H'
theorem ok_prog (T : Tp K w mg) (N : Nat) (hN : N ≤ 64) : FnOk P w K mg base (L2.CX P w) (N + (N + 4) + 2 + 1) T.f_prog T.fd_prog ["self", "body", "cells", "locks", "channels"] (spProg K N T.C_Program T.C_NoProgram) := by
  refine T.D_prog.ok sc_prog (fun vs H Q E h => ?_) (fun cdv A outer s H vs Q E hr h => ?_)
  · obtain ⟨p, dx, b, d, vc, vl, vw, cs, ls, ws, rfl, _⟩ := h
    rfl
  · obtain ⟨p, dx, b, d, vc, vl, vw, cs, ls, ws, rfl, hp, hd, good, hc, okc, hl, fewl, okl, hw, okw, hsz, q⟩ := h
    refine ⟨_, (Evl.pss_cut (ps_set (i := 5) sc_prog.nd rfl (.inl rfl) (pe_ifExp (pt_cmpR op_isN (pv 2) pe_non (nomark _)) pe_dnewK (pv 2)))
  (Evl.pss_cut (ps_set (i := 6) sc_prog.nd rfl (.inl rfl) (pe_ifExp (pt_cmpR op_isN (pv 3) pe_non (nomark _)) (pe_lst pa_nil) (pv 3)))
  (Evl.pss_cut (ps_set (i := 7) sc_prog.nd rfl (.inl rfl) (pe_ifExp (pt_cmpR op_isN (pv 4) pe_non (nomark _)) pe_dnewK (pv 4)))
  (pss_cons (ps_if (PW.pt (pw_or (pt_not (pt_val (pcall T.D_sizes (ok_sizes T) (hr.mono (by omega)) (by rfl) (pa_cons (pv 5) (pa_cons (pe_un un_neg pe_int) (pa_cons pe_int pa_nil)))))) (pw_or (pt_not (pt_val (pcall T.D_locks (ok_locks T) (hr.mono (by omega)) (by rfl) (pa_cons (pv 6) pa_nil)))) (pw_or1 (pt_not (pt_val (pcall T.D_sizes (ok_sizes T) (hr.mono (by omega)) (by rfl) (pa_cons (pv 7) (pa_cons pe_int (pa_cons pe_int pa_nil))))))))))
  (pss_one (ps_raise rfl (takes_of rfl rfl rfl rfl) (pmk_oex T.x_NoProgram T.i_NoProgram T.ti_NoProgram (ok_np T) (hr.mono (by omega)) T.b_np .nil pass0 (by rfl) T.gC_NoProgram (pa_cons (pe_tup pa_nil) pa_nil))))
  pss_nil)
  (pss_cons (ps_set (i := 8) sc_prog.nd rfl (.inl rfl) (pe_callN (ok_first T N hN) (hr.mono (by omega)) (by rfl) T.g_first T.D_first.kp (kb_first T) pass0 (pa_cons (pv 1) pa_nil) (pk_cons (pe_callTy call_tuple_of (by rfl) T.tuple (by decide +kernel) (pa_cons (pe_callTy (call_listD rfl) (by rfl) T.list (by decide +kernel) (pa_cons (pv 5) pa_nil)) pa_nil)) (pk_cons (pe_callTy call_tuple_of (by rfl) T.tuple (by decide +kernel) (pa_cons (pv 6) pa_nil)) (pk_cons (pe_callTy call_tuple_of (by rfl) T.tuple (by decide +kernel) (pa_cons (pe_callTy (call_listD rfl) (by rfl) T.list (by decide +kernel) (pa_cons (pv 7) pa_nil)) pa_nil)) pk_nil)))))
  (pss_cons (ps_if (pt_cmpR op_notN (pv 8) pe_non (nomark _))
  (pss_one (ps_raise rfl (takes_of rfl rfl rfl rfl) (pmk_oex T.x_NoProgram T.i_NoProgram T.ti_NoProgram (ok_np T) (hr.mono (by omega)) T.b_np .nil pass0 (by rfl) T.gC_NoProgram (pa_cons (pv 8) pa_nil))))
  pss_nil)
  (pss_cons (ps_fld (pv 0) (pcall T.D_places (ok_places T N hN N) (hr.mono (by omega)) (by rfl) (pa_cons (pv 1) (pa_cons (pe_tup pa_nil) pa_nil))) rfl)
  (pss_cons (ps_if (pt_cmpR op_gt (pe_callB call_len_seq (by rfl) T.len PySem.boot_len (pa_cons (pe_fld (pv 0) rfl) pa_nil)) (pe_gi (by rfl) T.c_MOST_ROWS) (nomark _))
  (pss_one (ps_raise rfl (takes_of rfl rfl rfl rfl) (pmk_oex T.x_NoProgram T.i_NoProgram T.ti_NoProgram (ok_np T) (hr.mono (by omega)) T.b_np .nil pass0 (by rfl) T.gC_NoProgram (pa_cons (pe_tup pa_nil) pa_nil))))
  pss_nil)
  (pss_cons (ps_fld (pv 0) (pv 1) rfl)
  (pss_cons (ps_fld (pv 0) (pe_callTy call_dictC (by rfl) T.dict (by decide +kernel) (pa_cons (pv 5) pa_nil)) rfl)
  (pss_cons (ps_fld (pv 0) (pe_callTy call_list_of (by rfl) T.list (by decide +kernel) (pa_cons (pv 6) pa_nil)) rfl)
  (pss_one (ps_fld (pv 0) (pe_callTy call_dictC (by rfl) T.dict (by decide +kernel) (pa_cons (pv 7) pa_nil)) rfl))))))))))))), ?_⟩
    have failE : ∀ pl, progD N cs ls ws d = some pl → ∀ (H1 : Hp), V1 p H H1 → H1 p ≠ none → ∀ t dd : Addr, SqT K H1 t (pl.map V.int) → H1 dd = none → E (.ref T.C_NoProgram) (some dd) (upd H1 dd (.xd [("place", .ref t)])) := fun pl e H1 v1 hp1 t dd ht nd => by
      have nH : H dd = none := by
        cases h : H dd with
        | none => rfl
        | some o =>
          by_cases e2 : dd = p
          · rw [e2] at nd; exact absurd nd hp1
          · rw [v1 _ _ h e2] at nd; cases nd
      have z := q _ (v1.trans (same_upd (o := .xd [("place", .ref t)]) nd))
      rw [e] at z
      exact z t dd ((same_upd nd).sqt ht) upd_same nH
    -- first
    refine ⟨fun σ H1 => ∃ a1, σ = [some (.ref p), some b, some vc, some vl, some vw, some (.ref a1), none, none, none] ∧ Same H H1 ∧ H1 a1 = some (.dK (dI cs)), ?_, ?_⟩
    · refine ⟨_, rfl, rfl, _, rfl, ?_⟩
      rcases hc with ⟨rfl, rfl⟩ | ⟨a, rfl, ha⟩
      · exact ite1 (decide_eq_true rfl) fun d1 nd => ⟨d1, rfl, same_upd nd, upd_same⟩
      · exact ite0 (decide_eq_false (by intro z; cases z)) ⟨_, rfl, a, rfl, Same.refl H, ha⟩
    rintro _ H1 ⟨a1, rfl, s1, h1⟩
    -- keys
    refine ⟨fun σ H2 => ∃ a2, σ = [some (.ref p), some b, some vc, some vl, some vw, some (.ref a1), some (.ref a2), none, none] ∧ Same H1 H2 ∧ H2 a2 = some (.lst (ls.map V.str)), ?_, ?_⟩
    · refine ⟨_, rfl, rfl, _, rfl, ?_⟩
      rcases hl with ⟨rfl, rfl⟩ | ⟨a, rfl, ha⟩
      · exact ite1 (decide_eq_true rfl) ⟨Nat.zero_le _, fun d1 nd => ⟨d1, rfl, same_upd nd, upd_same⟩⟩
      · exact ite0 (decide_eq_false (by intro z; cases z)) ⟨_, rfl, a, rfl, Same.refl H1, s1 _ _ ha⟩
    rintro _ H2 ⟨a2, rfl, s2, h2⟩
    -- widths
    refine ⟨fun σ H3 => ∃ a3, σ = [some (.ref p), some b, some vc, some vl, some vw, some (.ref a1), some (.ref a2), some (.ref a3), none] ∧ Same H2 H3 ∧ H3 a3 = some (.dK (dI ws)), ?_, ?_⟩
    · refine ⟨_, rfl, rfl, _, rfl, ?_⟩
      rcases hw with ⟨rfl, rfl⟩ | ⟨a, rfl, ha⟩
      · exact ite1 (decide_eq_true rfl) fun d1 nd => ⟨d1, rfl, same_upd nd, upd_same⟩
      · exact ite0 (decide_eq_false (by intro z; cases z)) ⟨_, rfl, a, rfl, Same.refl H2, s2 _ _ (s1 _ _ ha)⟩
    rintro _ H3 ⟨a3, rfl, s3, h3⟩
    have s03 := (s1.trans s2).trans s3
    have h1 := s3 _ _ (s2 _ _ h1)
    have h2 := s3 _ _ h2
    clear s1 s2 s3 hc hl hw
    -- the tests
    have bad : ∀ H4, Same H H4 → (sizesD (-99) 99 cs && (locksD ls && sizesD 1 4 ws)) = false → ∀ t dd : Addr, H4 t = none → (upd H4 t (.tup [])) dd = none → E (.ref T.C_NoProgram) (some dd) (upd (upd H4 t (.tup [])) dd (.xd [("place", .ref t)])) := fun H4 s4 e t dd nt nd => by
      refine failE [] (by unfold progD; rw [e]; rfl) _ (V1.of (s4.trans (same_upd nt))) ?_ t dd (stt upd_same) nd
      rw [(s4.trans (same_upd nt)) _ _ hp]
      exact Option.some_ne_none _
    refine ⟨_, rfl, _, rfl, a1, cs, -99, 99, rfl, h1, okc.nd, okc.few, okc.ok, fun H4 s4 => ⟨_, rfl, ?_⟩⟩
    have s04 := s03.trans s4
    cases e1 : sizesD (-99) 99 cs with
    | false => exact iteT (iteT ⟨Nat.zero_le _, fun t nt => mkO_of fun dd nd => bad H4 s04 (by rw [e1]; rfl) t dd nt nd⟩)
    | true =>
    refine iteF ⟨_, rfl, a2, ls, rfl, s4 _ _ h2, fewl, okl, fun H5 s5 => ⟨_, rfl, ?_⟩⟩
    have s05 := s04.trans s5
    cases e2 : locksD ls with
    | false => exact iteT (iteT ⟨Nat.zero_le _, fun t nt => mkO_of fun dd nd => bad H5 s05 (by rw [e1, e2]; rfl) t dd nt nd⟩)
    | true =>
    refine iteF ⟨_, rfl, a3, ws, 1, 4, rfl, s5 _ _ (s4 _ _ h3), okw.nd, okw.few, okw.ok, fun H6 s6 => ⟨_, rfl, ?_⟩⟩
    have s06 := s05.trans s6
    cases e3 : sizesD 1 4 ws with
    | false => exact iteT ⟨Nat.zero_le _, fun t nt => mkO_of fun dd nd => bad H6 s06 (by rw [e1, e2, e3]; rfl) t dd nt nd⟩
    | true =>
    refine iteF ?_
    have h1 := s6 _ _ (s5 _ _ (s4 _ _ h1))
    have h2 := s6 _ _ (s5 _ _ (s4 _ _ h2))
    have h3 := s6 _ _ (s5 _ _ (s4 _ _ h3))
    clear s4 s5 s6 s03 s04 s05 bad
    have eP : progD N cs ls ws d = match firstD (cs.map (·.1)) ls (ws.map (·.1)) N d with
      | some pl => some pl
      | none => if (placesD N (rowsD d) []).length ≤ 60 then none else some [] := by
      unfold progD
      rw [e1, e2, e3]
      rfl
    have kk : ∀ kvs : List (Str × Int), (dI kvs).map (fun kv => kV kv.1) = (kvs.map (·.1)).map V.str := fun kvs => by
      unfold dI
      rw [List.map_map, List.map_map]
      rfl
    show tSeq _ _ _ _ _
    -- wrong
    refine ⟨_, rfl, _, rfl, a1, _, rfl, .inl h1, fun l1 n1 => ⟨l1, _, rfl, .inl ⟨sl upd_same, fun t1 m1 => ?_⟩⟩⟩
    rw [kk]
    rw [kk] at m1
    have sA := (same_upd (o := .lst ((cs.map (·.1)).map V.str)) n1).trans (same_upd (o := .tup ((cs.map (·.1)).map V.str)) m1)
    have hA : (upd (upd H6 l1 (.lst ((cs.map (·.1)).map V.str))) t1 (.tup ((cs.map (·.1)).map V.str))) t1 = some (.tup ((cs.map (·.1)).map V.str)) := upd_same
    generalize upd (upd H6 l1 (.lst ((cs.map (·.1)).map V.str))) t1 (.tup ((cs.map (·.1)).map V.str)) = HA at sA hA ⊢
    refine ⟨_, rfl, a2, _, rfl, .inl ⟨sl (sA _ _ h2), fun t2 m2 => ?_⟩⟩
    have sB := same_upd (o := .tup (ls.map V.str)) m2
    have hB : (upd HA t2 (.tup (ls.map V.str))) t2 = some (.tup (ls.map V.str)) := upd_same
    generalize upd HA t2 (.tup (ls.map V.str)) = HB at sB hB ⊢
    refine ⟨_, rfl, a3, _, rfl, .inl (sB _ _ (sA _ _ h3)), fun l3 n3 => ⟨l3, _, rfl, .inl ⟨sl upd_same, fun t3 m3 => ?_⟩⟩⟩
    rw [kk]
    rw [kk] at m3
    have sC := (same_upd (o := .lst ((ws.map (·.1)).map V.str)) n3).trans (same_upd (o := .tup ((ws.map (·.1)).map V.str)) m3)
    have hC : (upd (upd HB l3 (.lst ((ws.map (·.1)).map V.str))) t3 (.tup ((ws.map (·.1)).map V.str))) t3 = some (.tup ((ws.map (·.1)).map V.str)) := upd_same
    generalize upd (upd HB l3 (.lst ((ws.map (·.1)).map V.str))) t3 (.tup ((ws.map (·.1)).map V.str)) = HC at sC hC ⊢
    have s0C := s06.trans ((sA.trans sB).trans sC)
    have s6C := (sA.trans sB).trans sC
    refine ⟨rfl, rfl, b, d, t1, t2, t3, _, _, _, rfl, s0C.dp hd, good, stt (sC _ _ (sB _ _ hA)), stt (sC _ _ hB), stt hC, fun v H7 s7 hres => ?_⟩
    have s07 := s0C.trans s7
    have h1 := s7 _ _ (s6C _ _ h1)
    have h2 := s7 _ _ (s6C _ _ h2)
    have h3 := s7 _ _ (s6C _ _ h3)
    have hp7 := s07 _ _ hp
    clear s7 s6C sA sB sC
    refine ⟨_, rfl, rfl, _, rfl, ?_⟩
    cases e4 : firstD (cs.map (·.1)) ls (ws.map (·.1)) N d with
    | some pl =>
      rw [e4] at hres eP
      obtain ⟨t, rfl, ht⟩ := hres
      refine ite1 (by rw [decide_eq_false (by intro z; cases z)]; rfl) ⟨_, rfl, mkO_of fun dd nd => failE pl eP _ (V1.of s07) ?_ t dd ht nd⟩
      rw [hp7]
      exact Option.some_ne_none _
    | none =>
    rw [e4] at hres eP
    have hres : v = .non := hres
    subst hres
    dsimp only at eP
    refine ite0 (by rw [decide_eq_true rfl]; rfl) ?_
    obtain ⟨rows, rfl⟩ : ∃ rows, d = .tuple rows := by cases d <;> first | exact ⟨_, rfl⟩ | cases e4
    have e4 : wrongD (cs.map (·.1)) ls (ws.map (·.1)) N rows [] [] 0 = none := e4
    obtain ⟨bb, xs, rfl, hx, hall⟩ := dp_tup hd
    have hsz : (placesD N rows []).length ≤ sizeLine := hsz
    have eP : progD N cs ls ws (.tuple rows) = if (placesD N rows []).length ≤ 60 then none else some [] := eP
    show tSeq _ _ _ _ _
    -- spots
    refine ⟨_, rfl, Nat.zero_le _, fun t nt => ?_⟩
    have sD := same_upd (o := .tup []) nt
    have hD : (upd H7 t (.tup [])) t = some (.tup []) := upd_same
    generalize upd H7 t (.tup []) = H8 at sD hD ⊢
    have s08 := s07.trans sD
    refine ⟨bb, t, rows, [], _, _, _, [], 0, rfl, s08.dp hd, good, Nat.le_refl _, stt hD, Nat.zero_le _, e4, hsz, fun l H9 vs s9 hl9 nl9 hPL => ?_⟩
    have s09 := s08.trans s9
    have s79 := sD.trans s9
    have h1 := s79 _ _ h1
    have h2 := s79 _ _ h2
    have h3 := s79 _ _ h3
    have hp9 := s79 _ _ hp7
    have v09 := V1.of (p := p) s09
    have nl0 := s08.free nl9
    clear sD s9 s79 s07 s08 hp7
    refine ⟨_, rfl, p, T.C_Program, dx, [], rfl, hp9, T.cl_Program, T.na_Program_spots, by decide, ?_⟩
    have ne : ∀ {a : Addr} {o : HO}, H9 a = some o → (∀ C dx fs, o ≠ .ins C dx fs) → a ≠ p := fun h z e => by
      subst e
      rw [hp9] at h
      exact z _ _ _ (Option.some.inj h).symm
    have l_p : l ≠ p := ne hl9 (by intro _ _ _ z; cases z)
    have hl10 : (upd H9 p (.ins T.C_Program dx (putF "spots" (.ref l) []))) l = some (.lst vs) := by rw [upd_ne l_p]; exact hl9
    have hp10 : (upd H9 p (.ins T.C_Program dx (putF "spots" (.ref l) []))) p = some (.ins T.C_Program dx [("spots", .ref l)]) := upd_same
    have v10 : V1 p H (upd H9 p (.ins T.C_Program dx (putF "spots" (.ref l) []))) := v09.set
    have w10 : V1 p H9 (upd H9 p (.ins T.C_Program dx (putF "spots" (.ref l) []))) := (V1.of (Same.refl _)).set
    generalize upd H9 p (.ins T.C_Program dx (putF "spots" (.ref l) [])) = H10 at hl10 hp10 v10 w10 ⊢
    have lenv : vs.length = (placesD N rows []).length := paired_len hPL
    refine ⟨_, rfl, p, T.C_Program, dx, _, _, rfl, hp10, T.cl_Program, T.na_Program_spots, rfl, l, _, rfl, .inl (sl hl10), _, _, rfl, rfl, _, rfl, ?_⟩
    refine ite2 (fun hm => ?_) (fun hm => ?_)
    · have hm := of_decide_eq_true hm
      have e60 : ¬ (placesD N rows []).length ≤ 60 := by omega
      refine ⟨Nat.zero_le _, fun t nt => mkO_of fun dd nd => failE [] (by rw [eP, if_neg e60]) _ (v10.trans (same_upd nt)) ?_ t dd (stt upd_same) nd⟩
      rw [same_upd nt _ _ hp10]
      exact Option.some_ne_none _
    have e60 : (placesD N rows []).length ≤ 60 := by
      have : ¬ (60 : Int) < (vs.length : Nat) := fun z => hm (decide_eq_true z)
      omega
    rw [if_pos e60] at eP
    -- the fields
    refine ⟨_, rfl, _, rfl, p, T.C_Program, dx, _, rfl, hp10, T.cl_Program, T.na_Program_tree, by show 1 < 1000; decide, ?_⟩
    have h1 := w10 _ _ h1 (ne h1 (by intro _ _ _ z; cases z))
    have h2 := w10 _ _ h2 (ne h2 (by intro _ _ _ z; cases z))
    have h3 := w10 _ _ h3 (ne h3 (by intro _ _ _ z; cases z))
    have put : ∀ (Ha : Hp) (f : Str) (v : V) (fs fs' : List (Str × V)), putF f v fs = fs' → Ha p = some (.ins T.C_Program dx fs) → V1 p H Ha → ∀ Hb, Hb = upd Ha p (.ins T.C_Program dx (putF f v fs)) → Hb p = some (.ins T.C_Program dx fs') ∧ V1 p H Hb ∧ (∀ a o, Ha a = some o → (∀ C dx fs, o ≠ .ins C dx fs) → Hb a = some o) := fun Ha f v fs fs' e h1 h2 Hb e2 => by
      subst e2
      refine ⟨by rw [upd_same, e], h2.set, fun a o h3 h4 => ?_⟩
      rw [upd_ne (fun z => by subst z; rw [h1] at h3; exact h4 _ _ _ (Option.some.inj h3).symm)]
      exact h3
    obtain ⟨hp11, v11, k11⟩ := put H10 "tree" (.ref bb) _ _ rfl hp10 v10 _ rfl
    generalize upd H10 p (.ins T.C_Program dx (putF "tree" (.ref bb) [("spots", .ref l)])) = H11 at hp11 v11 k11 ⊢
    have h1 := k11 _ _ h1 (by intro _ _ _ z; cases z)
    have h2 := k11 _ _ h2 (by intro _ _ _ z; cases z)
    have h3 := k11 _ _ h3 (by intro _ _ _ z; cases z)
    have hl11 := k11 _ _ hl10 (by intro _ _ _ z; cases z)
    refine ⟨_, rfl, a1, _, rfl, .inl h1, fun f nf => ⟨_, rfl, p, T.C_Program, dx, _, rfl, same_upd nf _ _ hp11, T.cl_Program, T.na_Program_first, by show 2 < 1000; decide, ?_⟩⟩
    obtain ⟨hp12, v12, k12⟩ := put (upd H11 f (.dK (dI cs))) "first" (.ref f) _ _ rfl (same_upd nf _ _ hp11) (v11.trans (same_upd nf)) _ rfl
    have hf12 := k12 f _ upd_same (by intro _ _ _ z; cases z)
    have h2 := k12 _ _ (same_upd nf _ _ h2) (by intro _ _ _ z; cases z)
    have h3 := k12 _ _ (same_upd nf _ _ h3) (by intro _ _ _ z; cases z)
    have hl12 := k12 _ _ (same_upd nf _ _ hl11) (by intro _ _ _ z; cases z)
    generalize upd (upd H11 f (.dK (dI cs))) p (.ins T.C_Program dx (putF "first" (.ref f) (putF "tree" (.ref bb) [("spots", .ref l)]))) = H12 at hp12 v12 k12 hf12 h2 h3 hl12 ⊢
    refine ⟨_, rfl, a2, _, rfl, .inl (sl h2), fun g ng => ⟨_, rfl, p, T.C_Program, dx, _, rfl, same_upd ng _ _ hp12, T.cl_Program, T.na_Program_bolts, by show 3 < 1000; decide, ?_⟩⟩
    obtain ⟨hp13, v13, k13⟩ := put (upd H12 g (.lst (ls.map V.str))) "bolts" (.ref g) _ _ rfl (same_upd ng _ _ hp12) (v12.trans (same_upd ng)) _ rfl
    have gl : l ≠ g := ne_of_none hl12 ng
    have hg13 := k13 g _ upd_same (by intro _ _ _ z; cases z)
    have hf13 := k13 _ _ (same_upd ng _ _ hf12) (by intro _ _ _ z; cases z)
    have h3 := k13 _ _ (same_upd ng _ _ h3) (by intro _ _ _ z; cases z)
    have hl13 := k13 _ _ (same_upd ng _ _ hl12) (by intro _ _ _ z; cases z)
    show tSeq _ _ _ _ _
    generalize upd (upd H12 g (.lst (ls.map V.str))) p (.ins T.C_Program dx (putF "bolts" (.ref g) (putF "first" (.ref f) (putF "tree" (.ref bb) [("spots", .ref l)])))) = H13 at hp13 v13 k13 hg13 hf13 h3 hl13 ⊢
    refine ⟨_, rfl, a3, _, rfl, .inl h3, fun wd nw => ⟨_, rfl, p, T.C_Program, dx, _, rfl, same_upd nw _ _ hp13, T.cl_Program, T.na_Program_widths, by show 4 < 1000; decide, ?_⟩⟩
    obtain ⟨hp14, v14, k14⟩ := put (upd H13 wd (.dK (dI ws))) "widths" (.ref wd) _ _ rfl (same_upd nw _ _ hp13) (v13.trans (same_upd nw)) _ rfl
    have fw : f ≠ wd := ne_of_none hf13 nw
    have kA : ∀ a o, H9 a = some o → (∀ C dx fs, o ≠ .ins C dx fs) → (upd (upd H13 wd (.dK (dI ws))) p (.ins T.C_Program dx (putF "widths" (.ref wd) (putF "bolts" (.ref g) (putF "first" (.ref f) (putF "tree" (.ref bb) [("spots", .ref l)])))))) a = some o :=
      fun a o h z => k14 _ _ (same_upd nw _ _ (k13 _ _ (same_upd ng _ _ (k12 _ _ (same_upd nf _ _ (k11 _ _ (w10 _ _ h (ne h z)) z)) z)) z)) z
    have z := q _ v14
    rw [eP] at z
    exact z ⟨dx, l, f, g, wd, vs, hp14, kA _ _ hl9 (by intro _ _ _ z; cases z), paired_imp (fun _ _ ⟨t, e, h⟩ => ⟨t, e, sqt_kept kA h⟩) hPL, k14 _ _ (same_upd nw _ _ hf13) (by intro _ _ _ z; cases z), k14 _ _ (same_upd nw _ _ hg13) (by intro _ _ _ z; cases z), k14 _ _ upd_same (by intro _ _ _ z; cases z), gl, fw, nl0, v11.free nf hp11, v12.free ng hp12, v13.free nw hp13⟩
end
end TP
namespace TP
open PySem PySem.Spec PyProof.Rows L2 HX HB HG HU HH HD HS HV HQ
/-! ### what is drawn from -/
abbrev drL (g c : Addr) (r t : Int) : List (Key × V) := [(Sum.inr "great", .ref g), (Sum.inr "rest", .int r), (Sum.inr "cells", .ref c), (Sum.inr "turn", .int t)]
abbrev drO (g c : Addr) (r t : Int) : HO := .dK (drL g c r t)
structure Dr (H : Hp) (d g c : Addr) : Prop where
  ex : ∃ (gs cs : List Int) (r t : Int), H d = some (drO g c r t) ∧ H g = some (.lst (gs.map V.int)) ∧ H c = some (.lst (cs.map V.int)) ∧ cs ≠ [] ∧ gs.length ≤ 1000 ∧ cs.length ≤ 1000 ∧ g ≠ c
/-- all but these two stand -/
def Up (d g : Addr) (H H' : Hp) : Prop := ∀ b o, H b = some o → b ≠ d → b ≠ g → H' b = some o
section
variable {d g c : Addr} {H H' H'' : Hp} {K : PySem.W.Frag}
theorem Up.refl (H : Hp) : Up d g H H := fun _ _ h _ _ => h
theorem Up.trans (a : Up d g H H') (b : Up d g H' H'') : Up d g H H'' := fun x o h h1 h2 => b x o (a x o h h1 h2) h1 h2
theorem Up.of (s : Same H H') : Up d g H H' := fun b o h _ _ => s b o h
theorem Up.set (u : Up d g H H') {b : Addr} {o : HO} (hb : b = d ∨ b = g) : Up d g H (upd H' b o) := fun x y h h1 h2 => by
  rw [upd_ne (by rintro rfl; exact hb.elim h1 h2)]
  exact u x y h h1 h2
theorem Dr.same (D : Dr H d g c) (s : Same H H') : Dr H' d g c := by
  obtain ⟨gs, cs, r, t, h1, h2, h3, h4⟩ := D.ex
  exact ⟨gs, cs, r, t, s _ _ h1, s _ _ h2, s _ _ h3, h4⟩
/-- an object apart is written -/
theorem Dr.set (D : Dr H d g c) {b : Addr} {o : HO} (hd : b ≠ d) (hg : b ≠ g) (hc : b ≠ c) : Dr (upd H b o) d g c := by
  obtain ⟨gs, cs, r, t, h1, h2, h3, h4⟩ := D.ex
  exact ⟨gs, cs, r, t, by rw [upd_ne hd.symm]; exact h1, by rw [upd_ne hg.symm]; exact h2, by rw [upd_ne hc.symm]; exact h3, h4⟩
theorem Dr.apart (D : Dr H d g c) {b : Addr} (n : H b = none) : b ≠ d ∧ b ≠ g ∧ b ≠ c := by
  obtain ⟨gs, cs, r, t, h1, h2, h3, h4⟩ := D.ex
  exact ⟨(ne_of_none h1 n).symm, (ne_of_none h2 n).symm, (ne_of_none h3 n).symm⟩
/-- .. that was none ahead -/
theorem Up.own (u : Up d g H H') {b : Addr} {o : HO} (n : H b = none) : Up d g H (upd H' b o) := fun x y h h1 h2 => by
  rw [upd_ne (ne_of_none h n)]
  exact u x y h h1 h2
/-- tuples stand -/
theorem Up.sqt (u : Up d g H H') (D : Dr H d g c) {a : Addr} {xs : List V} (h : SqT K H a xs) : SqT K H' a xs := by
  obtain ⟨gs, cs, r, t, h1, h2, _⟩ := D.ex
  rcases h with (h | ⟨o, h⟩) | h
  · exact .inl (.inl (u _ _ h (ne_of h h1 (by intro z; cases z)) (ne_of h h2 (by intro z; cases z))))
  · exact .inl (.inr ⟨o, u _ _ h (ne_of h h1 (by intro z; cases z)) (ne_of h h2 (by intro z; cases z))⟩)
  · exact .inr h
end
theorem seq0 {α : Type} {x : α} (xs : List α) : seqIndex? 0 (x :: xs).length = some 0 := by
  unfold seqIndex?
  simp
theorem put_rest (g c : Addr) (r t v : Int) : putK (drL g c r t) (Sum.inr "rest") (.int v) = drL g c v t := rfl
theorem put_turn (g c : Addr) (r t v : Int) : putK (drL g c r t) (Sum.inr "turn") (.int v) = drL g c r v := rfl
theorem val_great (g c : Addr) (r t : Int) : valV (drL g c r t) (Sum.inr "great") = some (.ref g) := rfl
theorem val_rest (g c : Addr) (r t : Int) : valV (drL g c r t) (Sum.inr "rest") = some (.int r) := rfl
theorem val_cells (g c : Addr) (r t : Int) : valV (drL g c r t) (Sum.inr "cells") = some (.ref c) := rfl
theorem val_turn (g c : Addr) (r t : Int) : valV (drL g c r t) (Sum.inr "turn") = some (.int t) := rfl
theorem dr_lt (g c : Addr) (r t : Int) : (drL g c r t).length < sizeLine := by show 4 < sizeLine; decide
theorem dp_ints {K : PySem.W.Frag} {H : Hp} : ∀ ns : List Int, DpAll K H (ns.map V.int) (ns.map PyData.int)
  | [] => .nil
  | n :: ns => .cons (.int n) (dp_ints ns)
theorem ints_lay : ∀ ns : List Int, PyData.canLayAll0 (ns.map PyData.int) = true
  | [] => rfl
  | n :: ns => by simp only [List.map_cons, PyData.canLayAll0, PyData.canLay0, ints_lay ns, Bool.and_self]
theorem ints_depth : ∀ ns : List Int, PyData.depthAll (ns.map PyData.int) = 0
  | [] => rfl
  | n :: ns => by simp only [List.map_cons, PyData.depthAll, PyData.depth, ints_depth ns, Nat.max_self]
theorem ints_shaped (ns : List Int) : SeqAt.shaped (.list (ns.map PyData.int)) = true := by
  show (PyData.canLay0 (.list (ns.map PyData.int)) && decide (PyData.depth (.list (ns.map PyData.int)) ≤ 64)) = true
  simp only [PyData.canLay0, PyData.depth, ints_lay ns, ints_depth ns]
  rfl
section
variable {P : Program} {w : World} {K : PySem.W.Frag} {mg : Str → Option Value} {base : Heap}
def spNext : Sp := fun vs H Q _ => ∃ (d g c : Addr) (n : Int), vs = [.ref d, .int n] ∧ Dr H d g c ∧ 0 < n ∧ n ≤ 10 ^ 13 ∧ ∀ r H', 0 ≤ r → r < n → Dr H' d g c → Up d g H H' → Q (.int r) H'
theorem ok_next (T : Tp K w mg) : FnOk P w K mg base CX0 1 T.f_next T.fd_next ["_law_draw", "_law_size"] spNext := by
  refine T.D_next.F.ok sc_next (fun vs H Q E h => ?_) (fun cdv A outer s H vs Q E hr h => ?_)
  · obtain ⟨d, g, c, n, rfl, _⟩ := h
    rfl
  · obtain ⟨d, g, c, n, rfl, D, n0, n1, q⟩ := h
    have hu := hu_of hr
    refine ⟨_, (Evl.pss_cut (ps_if (PW.pt (pw_and (pt_cmpR op_lt (pe_dget hu (pv 0) pe_str (fun _ _ => rfl)) pe_int (nomark _)) (pw_and1 (pt_cmpR (op_neD hr.units) (pe_dget hu (pv 0) pe_str (fun _ _ => rfl)) (pe_lst pa_nil) (nomark _)))))
  (pss_one (ps_dput hu (pv 0) pe_str (pe_bm PySem.F.plainAttrs_list PySem.F.slot_list_pop PySem.F.type_list_pop mt_popAt (pe_dget hu (pv 0) pe_str (fun _ _ => rfl)) (pa_cons pe_int pa_nil)) rfl))
  pss_nil)
  (pss_cons (ps_if (pt_cmpR op_gt (pe_dget hu (pv 0) pe_str (fun _ _ => rfl)) pe_int (nomark _))
  (pss_cons (ps_set (i := 2) sc_next.nd rfl (.inl rfl) (pe_op op_modN (pe_dget hu (pv 0) pe_str (fun _ _ => rfl)) (pv 1)))
  (pss_cons (ps_dput hu (pv 0) pe_str (pe_op op_fdivW (pe_dget hu (pv 0) pe_str (fun _ _ => rfl)) (pv 1)) rfl)
  (pss_one (ps_ret (pv 2)))))
  pss_nil)
  (pss_cons (ps_par (i := 3) (j := 4) rfl sc_next.nd rfl rfl (by decide) rfl rfl (pa_cons (pe_dget hu (pv 0) pe_str (fun _ _ => rfl)) (pa_cons (pe_dget hu (pv 0) pe_str (fun _ _ => rfl)) pa_nil)) (by rfl))
  (pss_cons (ps_dput hu (pv 0) pe_str (pe_op op_add (pv 3) pe_int) rfl)
  (pss_cons (ps_set (i := 5) sc_next.nd rfl (.inl rfl) (pe_op op_mod (pe_op op_mul (pe_op op_add (pe_op op_add (pe_ix ix_list (pv 4) (pe_op op_modN (pv 3) (pe_callB call_len_seq (by rfl) T.len PySem.boot_len (pa_cons (pv 4) pa_nil))) (fun _ _ => rfl)) (pe_op op_mul pe_int (pv 3))) pe_int) pe_int) pe_int))
  (pss_cons (ps_set (i := 6) sc_next.nd rfl (.inl rfl) (pe_ix ix_list (pe_lst (pa_cons pe_int (pa_cons pe_int (pa_cons pe_int (pa_cons pe_int (pa_cons pe_int pa_nil)))))) (pe_op op_mod (pv 3) pe_int) (fun _ _ => rfl)))
  (pss_one (ps_ret (pe_op op_modN (pe_op op_fdiv (pe_op op_modN (pe_op op_mul (pv 5) (pe_op op_add (pe_op op_add (pv 5) (pe_op op_mul pe_int (pv 3))) pe_int)) (pv 6)) pe_int) (pv 1)))))))))), ?_⟩
    have hdiv : CDivW 0 n := wide_div n0 (b := 50) (by omega) (by decide) (by decide)
    refine ⟨fun σ H' => (∃ y2 y3 y4 y5 y6, σ = [some (.ref d), some (.int n), y2, y3, y4, y5, y6]) ∧ Dr H' d g c ∧ Up d g H H', ?_, ?_⟩
    · obtain ⟨gs, cs, r, t, h1, h2, h3, h4, h5, h6, h7⟩ := D.ex
      have gd : g ≠ d := ne_of h2 h1 (by intro z; cases z)
      have cd : c ≠ d := ne_of h3 h1 (by intro z; cases z)
      have stay : ∃ y2 y3 y4 y5 y6, start ["_law_draw", "_law_size", "_law_number", "_law_turn", "_law_stock", "_law_made", "_law_prime"] [.ref d, .int n] = [some (.ref d), some (.int n), y2, y3, y4, y5, y6] := ⟨_, _, _, _, _, rfl⟩
      refine ⟨_, rfl, d, _, rfl, DGet.k (k := Sum.inr "rest") h1, _, _, rfl, rfl, _, rfl, ite2 (fun _ => ?_) (fun _ => ⟨stay, D, Up.refl H⟩)⟩
      refine ⟨_, rfl, d, _, rfl, DGet.k (k := Sum.inr "great") h1, (by decide), fun e ne => ?_⟩
      have se : Same H (upd H e (.lst [])) := same_upd ne
      have hee : (upd H e (.lst [])) e = some (.lst []) := upd_same
      generalize upd H e (.lst []) = H1 at se hee ⊢
      refine ⟨.list (gs.map .int), .list [], .lst (sl (se _ _ h2)) (dp_ints gs), .lst (sl hee) .nil, ints_shaped gs, rfl, _, rfl, ?_⟩
      cases gs with
      | nil => exact ⟨stay, D.same se, Up.of se⟩
      | cons x gs =>
        refine ite1 rfl ?_
        refine ⟨_, rfl, d, _, rfl, DGet.k (k := Sum.inr "great") (se _ _ h1), ?_⟩
        refine ⟨.inl ⟨rfl, _, sl (se _ _ h2)⟩, g, _, 0, 0, _, rfl, rfl, se _ _ h2, by decide, by decide, seq0 _, rfl, ?_⟩
        refine ⟨_, rfl, d, _, rfl, DPut.k (k := Sum.inr "rest") (by rw [upd_ne gd.symm]; exact se _ _ h1) (dr_lt g c r t), ?_⟩
        refine ⟨stay, ⟨gs, cs, x, t, by rw [upd_same, put_rest], ?_, ?_, h4, by simp only [List.length_cons] at h5; omega, h6, h7⟩, ((Up.of se).set (.inr rfl)).set (.inl rfl)⟩
        · rw [upd_ne gd, upd_same]; rfl
        · rw [upd_ne cd, upd_ne h7.symm]; exact se _ _ h3
    · rintro σ H1 ⟨⟨y2, y3, y4, y5, y6, rfl⟩, D1, u1⟩
      obtain ⟨gs, cs, r, t, h1, h2, h3, h4, h5, h6, h7⟩ := id D1
      have gd : g ≠ d := ne_of h2 h1 (by intro z; cases z)
      have cd : c ≠ d := ne_of h3 h1 (by intro z; cases z)
      have put : ∀ r' t' H2, H2 = upd H1 d (drO g c r' t') → Dr H2 d g c ∧ Up d g H H2 := fun r' t' H2 e => by
        subst e
        refine ⟨⟨gs, cs, r', t', upd_same, by rw [upd_ne gd]; exact h2, by rw [upd_ne cd]; exact h3, h4, h5, h6, h7⟩, u1.set (.inl rfl)⟩
      refine ⟨_, rfl, d, _, rfl, DGet.k (k := Sum.inr "rest") h1, _, _, rfl, rfl, _, rfl, ite2 (fun _ => ?_) (fun _ => ?_)⟩
      · refine ⟨_, rfl, d, _, rfl, DGet.k (k := Sum.inr "rest") h1, _, rfl, _, _, rfl, rfl, (by omega), ?_⟩
        refine ⟨_, rfl, d, _, rfl, DGet.k (k := Sum.inr "rest") h1, _, rfl, _, _, rfl, rfl, hdiv, _, rfl, d, _, rfl, DPut.k (k := Sum.inr "rest") h1 (dr_lt g c r t), ?_⟩
        obtain ⟨D2, u2⟩ := put (r / n) t _ rfl
        exact ⟨_, rfl, q _ _ (Int.fmod_nonneg_of_pos _ n0) (Int.fmod_lt_of_pos _ n0) D2 u2⟩
      · refine ⟨_, rfl, d, _, rfl, DGet.k (k := Sum.inr "turn") h1, _, rfl, d, _, rfl, DGet.k (k := Sum.inr "cells") h1, _, _, rfl, ?_⟩
        refine ⟨_, rfl, _, _, rfl, rfl, _, rfl, d, _, rfl, DPut.k (k := Sum.inr "turn") h1 (dr_lt g c r t), ?_⟩
        obtain ⟨D2, u2⟩ := put r (t + 1) (upd H1 d (.dK (putK (drL g c r t) (Sum.inr "turn") (.int (t + 1))))) rfl
        have h3' : (upd H1 d (.dK (putK (drL g c r t) (Sum.inr "turn") (.int (t + 1))))) c = some (.lst (cs.map V.int)) := by rw [upd_ne cd]; exact h3
        show tSeq _ _ _ _ (upd H1 d (.dK (putK (drL g c r t) (Sum.inr "turn") (.int (t + 1)))))
        generalize upd H1 d (.dK (putK (drL g c r t) (Sum.inr "turn") (.int (t + 1)))) = H2 at D2 u2 h3' ⊢
        have lp : 0 < cs.length := List.length_pos_iff.mpr h4
        obtain ⟨j, hj, ej⟩ : ∃ j : Nat, j < cs.length ∧ t.fmod (((cs.map V.int).length : Nat) : Int) = (j : Int) := by
          have a1 := Int.fmod_nonneg_of_pos t (show (0 : Int) < (((cs.map V.int).length : Nat) : Int) by rw [List.length_map]; omega)
          have a2 := Int.fmod_lt_of_pos t (show (0 : Int) < (((cs.map V.int).length : Nat) : Int) by rw [List.length_map]; omega)
          rw [List.length_map] at a1 a2
          exact ⟨(t.fmod (cs.length : Nat)).toNat, by omega, by rw [List.length_map]; omega⟩
        -- made
        refine ⟨_, rfl, _, rfl, _, rfl, c, _, rfl, .inl (sl h3'), _, _, rfl, rfl, (by rw [List.length_map]; omega), c, _, _, _, rfl, rfl, sl h3', by rw [ej]; exact atI_nat (by rw [List.getElem?_map, List.getElem?_eq_getElem hj]; rfl), ?_⟩
        refine ⟨_, rfl, _, _, rfl, rfl, .inl ⟨by decide, by decide⟩, _, _, rfl, rfl, _, _, rfl, rfl, _, _, rfl, rfl, .inr ⟨by decide, by decide⟩, _, _, rfl, rfl, (by show (0 : Int) < 2147483647; decide), ?_⟩
        generalize em : (cs[j] + 1299721 * t + 7919) * 48271 % 2147483647 = m
        have m0 : 0 ≤ m ∧ m < 2147483647 := by rw [← em]; exact ⟨Int.emod_nonneg _ (by decide), Int.emod_lt_of_pos _ (by decide)⟩
        -- prime
        refine ⟨by show 5 ≤ sizeLine; decide, fun e ne => ?_⟩
        have se : Same H2 (upd H2 e (.lst [.int 2147483629, .int 2147483587, .int 2147483579, .int 2147483563, .int 2147483549])) := same_upd ne
        have hee : (upd H2 e (.lst [.int 2147483629, .int 2147483587, .int 2147483579, .int 2147483563, .int 2147483549])) e = some (.lst [.int 2147483629, .int 2147483587, .int 2147483579, .int 2147483563, .int 2147483549]) := upd_same
        generalize upd H2 e (.lst [.int 2147483629, .int 2147483587, .int 2147483579, .int 2147483563, .int 2147483549]) = H3 at se hee ⊢
        obtain ⟨p, hp, p0⟩ : ∃ p : Int, atI [V.int 2147483629, .int 2147483587, .int 2147483579, .int 2147483563, .int 2147483549] (t % 5) = some (.int p) ∧ 0 < p := by
          have a1 := Int.emod_nonneg t (show (5 : Int) ≠ 0 by decide)
          have a2 := Int.emod_lt_of_pos t (show (0 : Int) < 5 by decide)
          rcases (by omega : t % 5 = 0 ∨ t % 5 = 1 ∨ t % 5 = 2 ∨ t % 5 = 3 ∨ t % 5 = 4) with z | z | z | z | z <;> rw [z]
          · exact ⟨_, atI_nat (j := 0) rfl, by decide⟩
          · exact ⟨_, atI_nat (j := 1) rfl, by decide⟩
          · exact ⟨_, atI_nat (j := 2) rfl, by decide⟩
          · exact ⟨_, atI_nat (j := 3) rfl, by decide⟩
          · exact ⟨_, atI_nat (j := 4) rfl, by decide⟩
        refine ⟨_, rfl, _, _, rfl, rfl, (by show (0 : Int) < 5; decide), e, _, _, _, rfl, rfl, sl hee, hp, ?_⟩
        -- the end
        refine ⟨_, rfl, _, rfl, _, rfl, _, _, rfl, rfl, .inl ⟨by decide, by decide⟩, _, _, rfl, rfl, _, _, rfl, rfl, _, _, rfl, rfl, .inl ⟨by omega, by omega⟩, _, rfl, _, _, rfl, rfl, (by omega), _, _, rfl, rfl, ⟨by decide, by decide⟩, _, rfl, _, _, rfl, rfl, (by omega), ?_⟩
        exact q _ _ (Int.fmod_nonneg_of_pos _ n0) (Int.fmod_lt_of_pos _ n0) (D2.same se) (u2.trans (Up.of se))
def spBegun (K : PySem.W.Frag) : Sp := fun vs H Q _ => ∃ (a : Addr) (ns : List Int), vs = [.ref a] ∧ SqL K H a (ns.map V.int) ∧ ns.length ≤ 63 ∧ ∀ d g c H', Same H H' → H d = none → H g = none → Dr H' d g c → Q (.ref d) H'
theorem ok_begun (T : Tp K w mg) : FnOk P w K mg base CX0 1 T.f_begun T.fd_begun ["_law_script"] (spBegun K) := by
  refine T.D_begun.F.ok sc_begun (fun vs H Q E h => ?_) (fun cdv A outer s H vs Q E hr h => ?_)
  · obtain ⟨a, ns, rfl, _⟩ := h
    rfl
  · obtain ⟨a, ns, rfl, hS, hl, q⟩ := h
    refine ⟨_, (pss_cons (ps_setLc (i := 1) (own := [("_law_cell", 2)]) (g := gName 2) (by rfl) sc_begun.nd rfl rfl (sw_true rfl rfl rfl (by decide +kernel)) (pi_list (pv 0)) (blkOk_by (own := [("_law_cell", 2)]) (N := ["_law_script", "_law_great", "_law_cell"]) (sc := defScope s_begun) (by decide +kernel)) (fun _ _ _ _ _ => (pg_name (i := 2) sc_begun.nd rfl (.inl rfl))) (fun _ _ _ _ _ => (pts_one (pt_cmpR op_ge (pv 2) (pe_op op_pow pe_int pe_int) (nomark _)))) (fun _ _ _ _ _ => (pv 2)))
  (pss_one (ps_ret (pe_disp (pps_cons pe_str (pv 1) (pps_cons pe_str pe_int (pps_cons pe_str (pe_op op_cat (pe_callTy call_list_of (by rfl) T.list (by decide +kernel) (pa_cons (pv 0) pa_nil)) (pe_lst (pa_cons (pe_op op_add (pe_callB call_len_seq (by rfl) T.len PySem.boot_len (pa_cons (pv 0) pa_nil)) pe_int) pa_nil))) (pps_cons pe_str pe_int pps_nil)))) (by rfl) (by rfl) (fun z => by cases z) (by decide))))), ?_⟩
    refine ⟨_, rfl, a, rfl, ⟨_, hS⟩, fun g ng => lc_it walk_list (fun i H2 => Same H H2 ∧ ∃ gs : List Int, H2 g = some (.lst (gs.map V.int)) ∧ gs.length ≤ i) ⟨same_upd ng, [], upd_same, Nat.le_refl _⟩ (fun i H2 _ z => z.1.seq hS) ?_ ?_⟩
    · rintro i x H2 H3 hi ⟨sm, gs, hg, hz⟩ ⟨rfl, hx⟩
      rw [List.length_map] at hi
      rw [List.getElem?_map, List.getElem?_eq_getElem hi] at hx
      cases hx
      refine ⟨rfl, _, rfl, _, _, rfl, rfl, ⟨by decide, by decide, by decide⟩, _, _, rfl, rfl, _, rfl, ite2 (fun _ => ?_) (fun _ => ?_)⟩
      · refine ⟨_, rfl, _, hg, by rw [List.length_map]; exact small1000 (by omega), sm.own ng, gs ++ [ns[i]], by rw [upd_same, List.map_append]; rfl, by rw [List.length_append]; show gs.length + 1 ≤ i + 1; omega⟩
      · exact ⟨sm, gs, hg, by omega⟩
    · rintro H2 ⟨sm, gs, hg, hz⟩
      rw [List.length_map] at hz
      refine fun d nd => ?_
      have s1 : Same H (upd H2 d (.dK [])) := sm.trans (same_upd nd)
      have hd : (upd H2 d (.dK [])) d = some (.dK []) := upd_same
      have hg1 : (upd H2 d (.dK [])) g = some (.lst (gs.map V.int)) := same_upd nd _ _ hg
      generalize upd H2 d (.dK []) = H3 at s1 hd hg1 ⊢
      refine ⟨_, rfl, _, rfl, a, _, rfl, .inl (s1.seq hS), fun l nl => ?_⟩
      have s2 := same_upd (o := .lst (ns.map V.int)) nl
      have hl2 : (upd H3 l (.lst (ns.map V.int))) l = some (.lst (ns.map V.int)) := upd_same
      generalize upd H3 l (.lst (ns.map V.int)) = H4 at s2 hl2 ⊢
      refine ⟨_, rfl, a, _, rfl, .inl ((s1.trans s2).seq hS), _, _, rfl, rfl, (by show 1 ≤ sizeLine; decide), fun m nm => ?_⟩
      have s3 := same_upd (o := .lst [.int ((((ns.map V.int).length : Nat) : Int) + 5)]) nm
      have hm3 : (upd H4 m (.lst [.int ((((ns.map V.int).length : Nat) : Int) + 5)])) m = some (.lst [.int ((((ns.map V.int).length : Nat) : Int) + 5)]) := upd_same
      refine ⟨l, m, _, _, rfl, rfl, s3 _ _ hl2, hm3, Nat.le_trans (show _ ≤ 1000 by rw [List.length_map]; show ns.length + 1 ≤ 1000; omega) (by decide), fun c nc => ?_⟩
      have s4 := same_upd (o := .lst (ns.map V.int ++ [.int ((((ns.map V.int).length : Nat) : Int) + 5)])) nc
      have hc : (upd (upd H4 m (.lst [.int ((((ns.map V.int).length : Nat) : Int) + 5)])) c (.lst (ns.map V.int ++ [.int ((((ns.map V.int).length : Nat) : Int) + 5)]))) c = some (.lst ((ns ++ [(((ns.map V.int).length : Nat) : Int) + 5]).map V.int)) := by rw [upd_same, List.map_append]; rfl
      have s34 := s2.trans (s3.trans s4)
      show _ ∧ ∃ kvs : List (Key × V), _
      generalize upd (upd H4 m (.lst [.int ((((ns.map V.int).length : Nat) : Int) + 5)])) c (.lst (ns.map V.int ++ [.int ((((ns.map V.int).length : Nat) : Int) + 5)])) = H5 at s34 hc ⊢
      refine ⟨s34 _ _ hd, drL g c 0 0, rfl, by show 4 ≤ 15; decide, ?_⟩
      have nd0 : H d = none := sm.free nd
      have gd : g ≠ d := ne_of_none hg nd
      have cd : c ≠ d := ne_of hc (s34 _ _ hd) (by intro z; cases z)
      have gc : g ≠ c := ne_of_none ((s2.trans s3) _ _ hg1) nc
      refine q d g c _ ((s1.trans s34).own nd0) nd0 ng ⟨gs, ns ++ [(((ns.map V.int).length : Nat) : Int) + 5], 0, 0, upd_same, ?_, ?_, by simp, by omega, ?_, gc⟩
      · rw [upd_ne gd]; exact s34 _ _ hg1
      · rw [upd_ne cd]; exact hc
      · rw [List.length_append]; show ns.length + 1 ≤ 1000; omega
end
end TP
namespace TP
open PySem PySem.Spec PyProof.Rows L2 HX HB HG HU HH HD HS HV HQ TL
/-! ### names -/
theorem join_name {cs : List Nat} (h1 : 1 ≤ cs.length) (h6 : cs.length ≤ 6) (hl : ∀ c ∈ cs, isLow c = true) : isNameL (Txt.join Str.empty (cs.map sg)) = true := by
  have e := join_sg cs
  have el : (Txt.join Str.empty (cs.map sg)).length = cs.length := by
    have := congrArg List.length e
    rw [Array.length_toList] at this
    exact this
  unfold isNameL
  rw [el, e, decide_eq_true h1, decide_eq_true h6, List.all_eq_true.mpr hl]
  rfl
theorem sg_sum : ∀ cs : List Nat, ((cs.map sg).map (·.length)).sum = cs.length
  | [] => rfl
  | c :: cs => by
    rw [List.map_cons, List.map_cons, List.sum_cons, sg_sum cs, List.length_cons]
    show 1 + cs.length = cs.length + 1
    omega
theorem letters_at {j : Nat} (h : j < 26) : atI ("abcdefghijklmnopqrstuvwxyz" : Str).cps.toList (j : Int) = some (j + 97) := by
  refine atI_nat ?_
  have e : ("abcdefghijklmnopqrstuvwxyz" : Str).cps.toList = (List.range 26).map (· + 97) := by decide +kernel
  rw [e, List.getElem?_map, List.getElem?_range h]
  rfl
section
variable {P : Program} {w : World} {K : PySem.W.Frag} {mg : Str → Option Value} {base : Heap}
def spNm : Sp := fun vs H Q _ => ∃ (d g c : Addr), vs = [.ref d] ∧ Dr H d g c ∧ ∀ z H', isNameL z = true → Dr H' d g c → Up d g H H' → Q (.str z) H'
def own13 : List Str := ["put", "read", "write", "tell", "send", "take", "hold", "rest", "nest", "within", "start", "off", "shield"]
def own13b : List Str := ["fail", "catch", "try", "if", "often", "cell", "lock", "sum", "minus", "less", "clock", "a", "ab"]
def own26 : List Str := own13 ++ own13b
theorem own_names : ∀ z ∈ own26, isNameL z = true := by decide +kernel
theorem ok_name (T : Tp K w mg) : FnOk P w K mg base CX0 2 T.f_name T.fd_name ["_law_draw"] spNm := by
  refine T.D_name.F.ok sc_name (fun vs H Q E h => ?_) (fun cdv A outer s H vs Q E hr h => ?_)
  · obtain ⟨d, g, c, rfl, _⟩ := h
    rfl
  · obtain ⟨d, g, c, rfl, D, q⟩ := h
    refine ⟨_, (pss_cons (ps_set (i := 1) sc_name.nd rfl (.inl rfl) (pe_lst (pa_cons pe_str (pa_cons pe_str (pa_cons pe_str (pa_cons pe_str (pa_cons pe_str (pa_cons pe_str (pa_cons pe_str (pa_cons pe_str (pa_cons pe_str (pa_cons pe_str (pa_cons pe_str (pa_cons pe_str (pa_cons pe_str pa_nil)))))))))))))))
  (pss_cons (ps_set (i := 1) sc_name.nd rfl (.inl rfl) (pe_op op_cat (pv 1) (pe_lst (pa_cons pe_str (pa_cons pe_str (pa_cons pe_str (pa_cons pe_str (pa_cons pe_str (pa_cons pe_str (pa_cons pe_str (pa_cons pe_str (pa_cons pe_str (pa_cons pe_str (pa_cons pe_str (pa_cons pe_str (pa_cons pe_str pa_nil))))))))))))))))
  (pss_cons (ps_set (i := 2) sc_name.nd rfl (.inl rfl) (pe_ix ix_list (pv 1) (pcall T.D_next (ok_next T) hr (by rfl) (pa_cons (pv 0) (pa_cons pe_int pa_nil))) (fun _ _ => rfl)))
  (pss_cons (ps_par (i := 3) (j := 4) rfl sc_name.nd rfl rfl (by decide) rfl rfl (pa_cons (pe_op op_add pe_int (pcall T.D_next (ok_next T) hr (by rfl) (pa_cons (pv 0) (pa_cons pe_int pa_nil)))) (pa_cons (pcall T.D_next (ok_next T) hr (by rfl) (pa_cons (pv 0) (pa_cons pe_int pa_nil))) pa_nil)) (by rfl))
  (pss_cons (ps_setLc (i := 5) (own := [("_law_k", 6)]) (g := gName 6) (by rfl) sc_name.nd rfl rfl (sw_true rfl rfl rfl (by decide +kernel)) (pi_range1 (by rfl) T.range (pa_cons (pv 3) pa_nil)) (blkOk_by (own := [("_law_k", 6)]) (N := ["_law_draw", "_law_own", "_law_name_here", "_law_many", "_law_way", "_law_letters", "_law_k"]) (sc := defScope s_name) (by decide +kernel)) (fun _ _ _ _ _ => (pg_name (i := 6) sc_name.nd rfl (.inl rfl))) (fun _ _ _ _ _ => pts_nil) (fun _ _ _ _ _ => (pe_ix ix_str pe_str (pcall T.D_next (ok_next T) hr (by rfl) (pa_cons (pv 0) (pa_cons pe_int pa_nil))) (fun _ _ => rfl))))
  (pss_one (ps_ret (pe_ifExp (pt_cmpR op_eq (pv 4) pe_int (nomark _)) (pv 2) (pe_join pe_str (pv 5)))))))))), ?_⟩
    refine ⟨by show 13 ≤ sizeLine; decide, fun o no => ?_⟩
    have s1 := same_upd (o := .lst (own13.map V.str)) no
    have h1 : (upd H o (.lst (own13.map V.str))) o = some (.lst (own13.map V.str)) := upd_same
    show tSeq _ _ _ _ (upd H o (.lst (own13.map V.str)))
    generalize upd H o (.lst (own13.map V.str)) = H1 at s1 h1 ⊢
    refine ⟨_, rfl, by show 13 ≤ sizeLine; decide, fun o2 no2 => ?_⟩
    have s2 := same_upd (o := .lst (own13b.map V.str)) no2
    have h2 : (upd H1 o2 (.lst (own13b.map V.str))) o2 = some (.lst (own13b.map V.str)) := upd_same
    show rCat _ _ (upd H1 o2 (.lst (own13b.map V.str))) _
    generalize upd H1 o2 (.lst (own13b.map V.str)) = H2 at s2 h2 ⊢
    refine ⟨o, o2, _, _, rfl, rfl, s2 _ _ h1, h2, by show 26 ≤ sizeLine; decide, fun O nO => ?_⟩
    have s3 := same_upd (o := .lst (own26.map V.str)) nO
    have hO : (upd H2 O (.lst (own26.map V.str))) O = some (.lst (own26.map V.str)) := upd_same
    have s13 := (s1.trans s2).trans s3
    show tSeq _ _ _ _ (upd H2 O (.lst (own26.map V.str)))
    generalize upd H2 O (.lst (own26.map V.str)) = H3 at s13 hO ⊢
    have D3 := D.same s13
    have OD := (D.same (s1.trans s2)).apart nO
    have u3 : Up d g H H3 := Up.of s13
    -- name_here
    refine ⟨_, rfl, _, rfl, d, g, c, 26, rfl, D3, by decide, by decide, fun r H4 r0 r1 D4 u4 => ?_⟩
    obtain ⟨j, rfl⟩ : ∃ j : Nat, r = (j : Int) := ⟨r.toNat, by omega⟩
    have hj : j < own26.length := by show j < 26; omega
    refine ⟨O, _, _, .str own26[j], rfl, rfl, sl (u4 _ _ hO OD.1 OD.2.1), atI_nat (by rw [List.getElem?_map, List.getElem?_eq_getElem hj]; rfl), ?_⟩
    have hnm := own_names _ (List.getElem_mem hj)
    generalize own26[j] = nm at hnm ⊢
    -- many, way
    refine ⟨_, rfl, d, g, c, 6, rfl, D4, by decide, by decide, fun m H5 m0 m1 D5 u5 => ⟨_, _, rfl, rfl, ?_⟩⟩
    refine ⟨_, rfl, d, g, c, 3, rfl, D5, by decide, by decide, fun way H6 w0 w1 D6 u6 => ⟨_, _, rfl, ?_⟩⟩
    have u36 := ((u3.trans u4).trans u5).trans u6
    -- letters
    refine ⟨_, rfl, 1 + m, rfl, by omega, by omega, fun L nL => ?_⟩
    have LD := D6.apart nL
    refine lc_it walk_range (fun i H2 => Dr H2 d g c ∧ Up d g H6 H2 ∧ ∃ cs : List Nat, H2 L = some (.lst ((cs.map sg).map V.str)) ∧ cs.length = i ∧ ∀ x ∈ cs, isLow x = true) ⟨D6.same (same_upd nL), Up.of (same_upd nL), [], upd_same, rfl, fun _ z => by cases z⟩ (fun _ _ _ _ => trivial) ?_ ?_
    · rintro i x H7 H8 hi ⟨D7, u7, cs, hL, hcs, hlow⟩ ⟨rfl, rfl⟩
      refine ⟨rfl, _, rfl, d, g, c, 26, rfl, D7, by decide, by decide, fun r H9 r0 r1 D9 u9 => ?_⟩
      obtain ⟨k, rfl⟩ : ∃ k : Nat, r = (k : Int) := ⟨r.toNat, by omega⟩
      refine ⟨_, _, _, rfl, rfl, by show 26 ≤ sizeLine; decide, letters_at (by omega), _, u9 _ _ hL LD.1 LD.2.1, ?_, ?_, ?_, cs ++ [k + 97], ?_, ?_, ?_⟩
      · rw [List.length_map, List.length_map]; exact small1000 (by omega)
      · exact D9.set LD.1 LD.2.1 LD.2.2
      · exact (u7.trans u9).own nL
      · rw [upd_same, List.map_append, List.map_append]; rfl
      · rw [List.length_append, hcs]; rfl
      · intro y hy
        rcases List.mem_append.mp hy with hy | hy
        · exact hlow y hy
        · rw [List.mem_singleton.mp hy]
          unfold isLow
          rw [decide_eq_true (by omega), decide_eq_true (by omega)]
          rfl
    · rintro H7 ⟨D7, u7, cs, hL, hcs, hlow⟩
      refine ⟨_, rfl, rfl, _, rfl, ite2 (fun _ => ?_) (fun _ => ?_)⟩
      · exact ⟨_, rfl, q _ _ hnm D7 (u36.trans u7)⟩
      · refine ⟨⟨_, rfl⟩, _, rfl, _, L, _, rfl, rfl, .inl (sl hL), ?_, ?_⟩
        · rw [sg_sum, List.length_map, show (Str.ofString "").length = 0 from rfl]
          omega
        · exact q _ _ (join_name (by omega) (by omega) hlow) D7 (u36.trans u7)
end
end TP
namespace TP
open PySem PySem.Spec PyProof.Rows L2 HX HB HG HU HH HD HS HV HQ HK TL
section
variable {P : Program} {w : World} {K : PySem.W.Frag} {mg : Str → Option Value} {base : Heap}
theorem kb_prog (T : Tp K w mg) : KBn K T.fd_prog ["self", "body", "cells", "locks", "channels"] 2 ["cells", "locks", "channels"] (fun us ws => us ++ ws) (fun vs zs => vs ++ zs) := by
  obtain ⟨mv, h⟩ := T.D_prog.kbinds0 (ps := ["self", "body", "cells", "locks", "channels"]) 2 ["cells", "locks", "channels"] [] (fun us _ ws => us ++ ws) (List.cons_ne_nil _ _) (fun q h => by cases h) (fun a _ c => a.append c)
    (fun D doc pm an cdv ct us mv ws h1 h2 h3 => match us, ws, mv, h1, h2, h3 with | [_, _], [_, _, _], [], _, _, _ => rfl)
  exact h
theorem ArgD.same {H H' : Hp} {v : V} {kvs : List (Str × Int)} (h : ArgD H v kvs) (s : Same H H') : ArgD H' v kvs := by
  rcases h with h | ⟨a, e, h⟩
  · exact .inl h
  · exact .inr ⟨a, e, s _ _ h⟩
theorem ArgL.same {H H' : Hp} {v : V} {zs : List Str} (h : ArgL H v zs) (s : Same H H') : ArgL H' v zs := by
  rcases h with h | ⟨a, e, h⟩
  · exact .inl h
  · exact .inr ⟨a, e, s _ _ h⟩
end
/-! ### texts of small letters -/
structure Low (z : Str) : Prop where
  low : ∀ c ∈ z.cps.toList, isLow c = true
  few : z.length ≤ 1000
theorem Low.of {z : Str} (h : isNameL z = true) : Low z := by
  unfold isNameL at h
  simp only [Bool.and_eq_true, decide_eq_true_eq, List.all_eq_true] at h
  exact ⟨h.2, by omega⟩
theorem Low.name {z : Str} (h : Low z) (h1 : 1 ≤ z.length) (h6 : z.length ≤ 6) : isNameL z = true := by
  unfold isNameL
  rw [decide_eq_true h1, decide_eq_true h6, List.all_eq_true.mpr h.low]
  rfl
theorem Low.ok {z : Str} (h : Low z) : okD (.str z) = true := by
  have := h.few
  simp only [okD, decide_eq_true_eq]
  omega
theorem isLow_lt {c : Nat} (h : isLow c = true) : 97 ≤ c ∧ c ≤ 122 := by
  unfold isLow at h
  simpa [Bool.and_eq_true] using h
theorem Low.lay {z : Str} (h : Low z) : PyData.canLay0 (.str z) = true := by
  show z.cps.all (fun c => decide (c < 0x110000)) = true
  rw [← Array.all_toList, List.all_eq_true]
  intro c hc
  have := isLow_lt (h.low c hc)
  exact decide_eq_true (by omega)
theorem low_app {x y : Str} (hx : Low x) (hy : Low y) (h : x.length + y.length ≤ 1000) : Low (x ++ y) := by
  refine ⟨fun c hc => ?_, by rw [strLen_append]; exact h⟩
  rw [show (x ++ y).cps.toList = x.cps.toList ++ y.cps.toList from tl_append x y] at hc
  rcases List.mem_append.mp hc with hc | hc
  · exact hx.low c hc
  · exact hy.low c hc
theorem low_sg {k : Nat} (h : k < 26) : Low (sg (k + 97)) := by
  refine ⟨fun c hc => ?_, by show 1 ≤ 1000; decide⟩
  have : c = k + 97 := by simpa [sg] using hc
  subst this
  unfold isLow
  rw [decide_eq_true (by omega), decide_eq_true (by omega)]
  rfl
theorem low_cut {z : Str} (h : Low z) (lo hi : Option Int) : Low (cutS z lo hi) := by
  refine ⟨fun c hc => h.low c ?_, Nat.le_trans (cutS_length z lo hi) h.few⟩
  unfold cutS at hc
  exact List.mem_of_mem_drop (List.mem_of_mem_take (by simpa using hc))
theorem cut_last {z : Str} (h : z.length ≤ 6) : cutS z (some (-6)) none = z := by
  unfold cutS
  have e : HT.sIx z.length 0 (some (-6)) = 0 := by
    show (if (-6 : Int) < 0 then ((-6 : Int) + (z.length : Int)).toNat else min (-6 : Int).toNat z.length) = 0
    rw [if_pos (by decide)]
    omega
  rw [e, HT.sIx_none, List.drop_zero, Nat.sub_zero, show z.length = z.cps.toList.length by simp [Str.length], List.take_length]
/-! ### data that is fit -/
theorem Good.str {z : Str} (h : Low z) (n : Nat) : Good (.str z) n := ⟨h.ok, h.lay, Nat.zero_le _⟩
theorem Good.int (i : Int) (n : Nat) : Good (.int i) n := ⟨rfl, rfl, Nat.zero_le _⟩
theorem okAll_of : ∀ {xs : List PyData}, (∀ x ∈ xs, okD x = true) → okAll xs = true
  | [], _ => rfl
  | x :: xs, h => by
    simp only [okAll, Bool.and_eq_true]
    exact ⟨h x (List.mem_cons_self ..), okAll_of fun y hy => h y (List.mem_cons_of_mem _ hy)⟩
theorem layAll_of : ∀ {xs : List PyData}, (∀ x ∈ xs, PyData.canLay0 x = true) → PyData.canLayAll0 xs = true
  | [], _ => rfl
  | x :: xs, h => by
    simp only [PyData.canLayAll0, Bool.and_eq_true]
    exact ⟨h x (List.mem_cons_self ..), layAll_of fun y hy => h y (List.mem_cons_of_mem _ hy)⟩
theorem depAll_of {n : Nat} : ∀ {xs : List PyData}, (∀ x ∈ xs, PyData.depth x ≤ n) → PyData.depthAll xs ≤ n
  | [], _ => Nat.zero_le _
  | x :: xs, h => by
    simp only [PyData.depthAll]
    have h1 := h x (List.mem_cons_self ..)
    have h2 := depAll_of fun y hy => h y (List.mem_cons_of_mem _ hy)
    omega
theorem Good.tup {xs : List PyData} {n : Nat} (h : ∀ x ∈ xs, Good x n) (l : xs.length ≤ 10000) : Good (.tuple xs) (n + 1) := by
  refine ⟨?_, layAll_of fun x hx => (h x hx).lay, ?_⟩
  · simp only [okD, Bool.and_eq_true, decide_eq_true_eq]
    exact ⟨l, okAll_of fun x hx => (h x hx).ok⟩
  · have := depAll_of fun x hx => (h x hx).dep
    show PyData.depthAll xs + 1 ≤ n + 1
    omega
/-! ### displays: new tuples, new lists -/
section
variable {K : PySem.W.Frag} {H : Hp}
theorem new_tup {xs : List V} {ds : List PyData} {p : Addr} (np : H p = none) (hx : DpAll K H xs ds) : Same H (upd H p (.tup xs)) ∧ Dp K (upd H p (.tup xs)) (.ref p) (.tuple ds) :=
  ⟨same_upd np, .tup (stt upd_same) ((same_upd np).dpAll hx)⟩
theorem new_lst {xs : List V} {p : Addr} (np : H p = none) : Same H (upd H p (.lst xs)) ∧ (upd H p (.lst xs)) p = some (.lst xs) := ⟨same_upd np, upd_same⟩
end
theorem str_lit {z : Str} (h : (decide (z.length ≤ 20) && z.cps.toList.all isLow) = true) : Low z := by
  simp only [Bool.and_eq_true, decide_eq_true_eq, List.all_eq_true] at h
  exact ⟨h.2, by omega⟩
theorem look_none {ps : List (Str × Str)} {z : Str} (h : z ∉ ps.map (·.1)) : lookW ps z = none := by
  cases e : lookW ps z with
  | none => rfl
  | some w => exact absurd (lookW_mem e) h
theorem part_name {cs ls hs : List Str} {ps : List (Str × Str)} {z : Str} (h : isNameL z = true) : isPartD cs ls hs ps "name" (.str z) = true := by
  show (isNameL z && namePart "name" z cs ls hs ps) = true
  rw [h]
  rfl
theorem part_sc {cs ls hs : List Str} {ps : List (Str × Str)} {z : Str} (h : isNameL z = true) (hz : z ∉ ps.map (·.1)) : isPartD cs ls hs ps "scope" (.str z) = true := by
  show (isNameL z && (decide (("scope" : Str) = "name") || decide ((lookW ps z).isSome = decide (("scope" : Str) = "entered")))) = true
  rw [h, look_none hz]
  rfl
theorem part_tup {cs ls hs : List Str} {ps : List (Str × Str)} {xs : List PyData} : isPartD cs ls hs ps "body" (.tuple xs) = true := rfl
theorem row2 {cs ls hs : List Str} {ps : List (Str × Str)} {z k1 : Str} {a : PyData} (h : kindsOf z = some [k1]) (h1 : isPartD cs ls hs ps k1 a = true) : isRowD cs ls hs ps (.tuple [.str z, a]) = true := by
  simp only [isRowD, h, List.length_cons, List.length_nil, decide_true, List.zip_cons_cons, List.zip_nil_left, List.all_cons, List.all_nil, h1, Bool.and_self]
theorem row3 {cs ls hs : List Str} {ps : List (Str × Str)} {z k1 k2 : Str} {a b : PyData} (h : kindsOf z = some [k1, k2]) (h1 : isPartD cs ls hs ps k1 a = true) (h2 : isPartD cs ls hs ps k2 b = true) : isRowD cs ls hs ps (.tuple [.str z, a, b]) = true := by
  simp only [isRowD, h, List.length_cons, List.length_nil, decide_true, List.zip_cons_cons, List.zip_nil_left, List.all_cons, List.all_nil, h1, h2, Bool.and_self]
theorem row4 {cs ls hs : List Str} {ps : List (Str × Str)} {z k1 k2 k3 : Str} {a b c : PyData} (h : kindsOf z = some [k1, k2, k3]) (h1 : isPartD cs ls hs ps k1 a = true) (h2 : isPartD cs ls hs ps k2 b = true) (h3 : isPartD cs ls hs ps k3 c = true) : isRowD cs ls hs ps (.tuple [.str z, a, b, c]) = true := by
  simp only [isRowD, h, List.length_cons, List.length_nil, decide_true, List.zip_cons_cons, List.zip_nil_left, List.all_cons, List.all_nil, h1, h2, h3, Bool.and_self]
theorem wrong_nil (cs ls hs : List Str) (n : Nat) (place : List Int) (ps : List (Str × Str)) (oft : Int) : wrongD cs ls hs n [] place ps oft = none := by
  cases n <;> rfl
/-- a row without bodies that may stand anywhere -/
structure Leaf (cs ls hs : List Str) (d : PyData) : Prop where
  row : ∀ ps, isRowD cs ls hs ps d = true
  oft : oftD d = 0
  bods : bodiesD d = []
theorem wrong_one {cs ls hs : List Str} {n : Nat} {row : PyData} {place : List Int} {ps : List (Str × Str)} {oft : Int} : wrongD cs ls hs (n + 1) [row] place ps oft = rowF cs ls hs n place ps oft 0 row := by
  have e : wrongD cs ls hs (n + 1) [row] place ps oft = firstSome (rowF cs ls hs n place ps oft) 0 [row] := by
    simp only [wrongD]
    rfl
  rw [e]
  simp only [firstSome]
  cases rowF cs ls hs n place ps oft 0 row <;> rfl
/-! ### data of tuples alone stand while draws are drawn -/
section
variable {K : PySem.W.Frag} {H H' : Hp} {d g c : Addr}
theorem Up.dp (u : Up d g H H') (D : Dr H d g c) {v : V} {x : PyData} (t : tupD x = true) (h : Dp K H v x) : Dp K H' v x := dp_keep (fun _ _ h => u.sqt D h) t h
theorem Up.dpAll (u : Up d g H H') (D : Dr H d g c) {vs : List V} {xs : List PyData} (t : tupAll xs = true) (h : DpAll K H vs xs) : DpAll K H' vs xs := dpAll_keep (fun _ _ h => u.sqt D h) t h
end
theorem tup_ints : ∀ ns : List Int, tupAll (ns.map .int) = true
  | [] => rfl
  | n :: ns => by simp only [List.map_cons, tupAll, tupD, tup_ints ns, Bool.and_self]
theorem dp_ints_inv {K : PySem.W.Frag} {H : Hp} : ∀ {ns : List Int} {xs : List V}, DpAll K H xs (ns.map .int) → xs = ns.map V.int
  | [], _, .nil => rfl
  | n :: ns, _, .cons (.int _) t => by rw [dp_ints_inv t]; rfl
theorem dp_place {K : PySem.W.Frag} {H : Hp} {v : V} {pl : List Int} (h : Dp K H v (.tuple (pl.map .int))) : ∃ t : Addr, v = .ref t ∧ SqT K H t (pl.map V.int) := by
  obtain ⟨a, xs, rfl, hx, hall⟩ := dp_tup h
  rw [dp_ints_inv hall] at hx
  exact ⟨a, rfl, hx⟩
/-! ### how many rows -/
def cntD : Nat → List PyData → Nat
  | 0, _ => 0
  | n + 1, rows => (rows.map fun row => 1 + ((bodiesD row).map fun b => cntD n (rowsD b)).sum).sum
theorem flat_len {α β : Type} {f : Nat → α → List β} {g : α → Nat} : ∀ {xs : List α} {i : Nat}, (∀ k x, (f k x).length = g x) → (flatF f i xs).length = (xs.map g).sum
  | [], _, _ => rfl
  | x :: xs, i, h => by
    simp only [flatF, List.length_append, List.map_cons, List.sum_cons]
    rw [h, flat_len h]
theorem places_len : ∀ (n : Nat) (rows : List PyData) (place : List Int), (placesD n rows place).length = cntD n rows
  | 0, _, _ => rfl
  | n + 1, rows, place => by
    simp only [placesD, cntD]
    refine flat_len fun k row => ?_
    rw [List.length_cons, flat_len (g := fun b => cntD n (rowsD b)) fun j b => places_len n _ _]
    omega
theorem cnt_app (n : Nat) (xs ys : List PyData) : cntD n (xs ++ ys) = cntD n xs + cntD n ys := by
  cases n with
  | zero => rfl
  | succ n => simp only [cntD, List.map_append, List.sum_append]
theorem cnt_nil (n : Nat) : cntD n [] = 0 := by cases n <;> rfl
/-! ### right rows, by their rows -/
theorem first_none {α β : Type} {f : Nat → α → Option β} : ∀ {xs : List α} {i : Nat}, (∀ k x, xs[k]? = some x → f (i + k) x = none) → firstSome f i xs = none
  | [], _, _ => rfl
  | x :: xs, i, h => by
    simp only [firstSome]
    rw [show f i x = none from h 0 x rfl]
    refine first_none fun k y e => ?_
    rw [show i + 1 + k = i + (k + 1) by omega]
    exact h (k + 1) y (by simpa using e)
theorem wrong_succ {cs ls hs : List Str} {n : Nat} {rows : List PyData} {place : List Int} {ps : List (Str × Str)} {oft : Int} : wrongD cs ls hs (n + 1) rows place ps oft = firstSome (rowF cs ls hs n place ps oft) 0 rows := by
  simp only [wrongD]
  rfl
theorem rowF_none' {cs ls hs : List Str} {n : Nat} {place : List Int} {ps : List (Str × Str)} {oft : Int} {i : Nat} {row : PyData} (h1 : place.length + 1 ≤ 19) (h2 : isRowD cs ls hs ps row = true) (h3 : oft + oftD row ≤ 3)
    (h4 : ∀ (j : Nat) b, (bodiesD row)[j]? = some b → wrongD cs ls hs n (rowsD b) (place ++ [(i : Int)] ++ [(j : Int)]) (arD row ps) (oft + oftD row) = none) : rowF cs ls hs n place ps oft i row = none := by
  unfold rowF
  rw [h2, if_neg (by simp; omega), if_neg (by omega)]
  exact first_none fun k x e => by rw [Nat.zero_add]; exact h4 k x e
theorem nodup_map {α β : Type} {f : α → β} {l : List α} (h : l.Nodup) (hf : ∀ a b, f a = f b → a = b) : (l.map f).Nodup := List.pairwise_map.mpr (List.Pairwise.imp (fun ne e => ne (hf _ _ e)) h)
/-! ### weights: no shown text is longer -/
mutual
def wtD : PyData → Nat
  | .int i => if i.natAbs ≤ 10 ^ 13 then 20 else 10 ^ 9
  | .str z => z.length + 4
  | .tuple xs => 4 + wtAll xs
  | .list xs => 4 + wtAll xs
  | .bool _ => 8
  | .none => 8
  | _ => 10 ^ 9
def wtAll : List PyData → Nat
  | [] => 0
  | x :: xs => wtD x + wtAll xs
end
theorem wt_app : ∀ (xs ys : List PyData), wtAll (xs ++ ys) = wtAll xs + wtAll ys
  | [], ys => by simp [wtAll]
  | x :: xs, ys => by simp only [List.cons_append, wtAll, wt_app xs ys]; omega
theorem wt_int {i : Int} (h : i.natAbs ≤ 10 ^ 13) : wtD (.int i) = 20 := by
  show (if i.natAbs ≤ 10 ^ 13 then 20 else 10 ^ 9) = 20
  rw [if_pos h]
theorem name_len {z : Str} (h : isNameL z = true) : 1 ≤ z.length ∧ z.length ≤ 6 := by
  unfold isNameL at h
  simp only [Bool.and_eq_true, decide_eq_true_eq] at h
  omega
theorem wt_name {z : Str} (h : isNameL z = true) : wtD (.str z) ≤ 10 := by
  have := (name_len h).2
  show z.length + 4 ≤ 10
  omega
def cw : Nat → Nat
  | 0 => 20
  | n + 1 => 14 + 2 * cw n
theorem cw_pos : ∀ n, 20 ≤ cw n
  | 0 => Nat.le_refl _
  | n + 1 => by have := cw_pos n; show 20 ≤ 14 + 2 * cw n; omega
end TP
namespace TP
open PySem PySem.Spec PyProof.Rows L2 HX HB HG HU HH HD HS HV HQ HK HN TL
/-! ### what rows may name -/
abbrev pl4 (C L Ch W : Addr) : List (Key × V) := [(Sum.inr "cells", .ref C), (Sum.inr "locks", .ref L), (Sum.inr "channels", .ref Ch), (Sum.inr "words", .ref W)]
abbrev pl5 (C L Ch W : Addr) (k : Int) : List (Key × V) := [(Sum.inr "cells", .ref C), (Sum.inr "locks", .ref L), (Sum.inr "channels", .ref Ch), (Sum.inr "words", .ref W), (Sum.inr "left", .int k)]
structure Sz (kvs : List (Str × Int)) (l u : Int) : Prop where
  names : ∀ q ∈ kvs, isNameL q.1 = true
  nd : (kvs.map (·.1)).Nodup
  few : kvs.length ≤ 4
  rng : ∀ q ∈ kvs, l ≤ q.2 ∧ q.2 ≤ u
structure Nm (cs : List (Str × Int)) (ls : List Str) (hs : List (Str × Int)) (ws : List Str) : Prop where
  cells : Sz cs (-99) 99
  lanes : Sz hs 1 4
  locks : ∀ z ∈ ls, isNameL z = true
  lnd : ls.Nodup
  lfew : ls.length ≤ 4
  words : ∀ z ∈ ws, isNameL z = true
  four : ws.length = 4
theorem Sz.okd {kvs : List (Str × Int)} {l u : Int} (h : Sz kvs l u) : OkD kvs := ⟨h.nd, Nat.le_trans h.few (by decide), fun q hq => ⟨(Low.of (h.names q hq)).ok, rfl⟩⟩
theorem Sz.sizes {kvs : List (Str × Int)} {l u : Int} (h : Sz kvs l u) : sizesD l u kvs = true := by
  unfold sizesD
  rw [decide_eq_true h.few, Bool.true_and, List.all_eq_true]
  intro q hq
  rw [h.names q hq, decide_eq_true (h.rng q hq)]
  rfl
theorem Nm.locksD {cs ls hs ws} (h : Nm cs ls hs ws) : locksD ls = true := by
  unfold TP.locksD
  rw [decide_eq_true h.lfew, List.all_eq_true.mpr h.locks, decide_eq_true h.lnd]
  rfl
/-- the play, with how many rows may come still -/
structure Play (H : Hp) (d g c pl C L Ch W : Addr) (cs : List (Str × Int)) (ls : List Str) (hs : List (Str × Int)) (ws : List Str) (k : Nat) : Prop where
  hpl : H pl = some (.dK (pl5 C L Ch W (k : Int)))
  hC : H C = some (.dK (dI cs))
  hL : H L = some (.lst (ls.map V.str))
  hCh : H Ch = some (.dK (dI hs))
  hW : H W = some (.lst (ws.map V.str))
  nC : C ∉ [d, g, pl]
  nL : L ∉ [d, g, pl]
  nCh : Ch ∉ [d, g, pl]
  nW : W ∉ [d, g, pl]
  npl : pl ≠ d ∧ pl ≠ g ∧ pl ≠ c
  cch : C ≠ Ch
section
variable {K : PySem.W.Frag} {H H' : Hp} {d g c pl C L Ch W : Addr} {cs : List (Str × Int)} {ls : List Str} {hs : List (Str × Int)} {ws : List Str} {k k' : Nat}
theorem Play.but (Y : Play H d g c pl C L Ch W cs ls hs ws k) (u : But [d, g, pl] H H') (e : H' pl = some (.dK (pl5 C L Ch W (k' : Int)))) : Play H' d g c pl C L Ch W cs ls hs ws k' :=
  ⟨e, u _ _ Y.hC Y.nC, u _ _ Y.hL Y.nL, u _ _ Y.hCh Y.nCh, u _ _ Y.hW Y.nW, Y.nC, Y.nL, Y.nCh, Y.nW, Y.npl, Y.cch⟩
theorem up_but (u : Up d g H H') : But [d, g] H H' := fun b o h n => u b o h (fun e => n (by rw [e]; simp)) (fun e => n (by rw [e]; simp))
theorem up_but3 (u : Up d g H H') : But [d, g, pl] H H' := (up_but u).mono fun x hx => by simp at hx ⊢; rcases hx with h | h <;> simp [h]
theorem Play.up (Y : Play H d g c pl C L Ch W cs ls hs ws k) (u : Up d g H H') : Play H' d g c pl C L Ch W cs ls hs ws k := Y.but (up_but3 u) (u _ _ Y.hpl Y.npl.1 Y.npl.2.1)
theorem Play.same (Y : Play H d g c pl C L Ch W cs ls hs ws k) (s : Same H H') : Play H' d g c pl C L Ch W cs ls hs ws k := Y.up (Up.of s)
/-- tuples stand while rows are drawn -/
theorem Play.sqt (Y : Play H d g c pl C L Ch W cs ls hs ws k) (D : Dr H d g c) (u : But [d, g, pl] H H') {a : Addr} {xs : List V} (h : SqT K H a xs) : SqT K H' a xs := by
  obtain ⟨gs, cs', r, t, h1, h2, _⟩ := D.ex
  refine u.sqt (fun x hx => ?_) h
  simp only [List.mem_cons, List.not_mem_nil, or_false] at hx
  rcases hx with rfl | rfl | rfl
  · exact ⟨_, h1, (fun _ z => by cases z), fun _ _ z => by cases z⟩
  · exact ⟨_, h2, (fun _ z => by cases z), fun _ _ z => by cases z⟩
  · exact ⟨_, Y.hpl, (fun _ z => by cases z), fun _ _ z => by cases z⟩
theorem Play.dp (Y : Play H d g c pl C L Ch W cs ls hs ws k) (D : Dr H d g c) (u : But [d, g, pl] H H') {v : V} {x : PyData} (t : tupD x = true) (h : Dp K H v x) : Dp K H' v x := dp_keep (fun _ _ h => Y.sqt D u h) t h
theorem Play.dpAll (Y : Play H d g c pl C L Ch W cs ls hs ws k) (D : Dr H d g c) (u : But [d, g, pl] H H') {vs : List V} {xs : List PyData} (t : tupAll xs = true) (h : DpAll K H vs xs) : DpAll K H' vs xs := dpAll_keep (fun _ _ h => Y.sqt D u h) t h
end
/-! ### a calc -/
theorem kindD_ok {k : Str} (h : k = "sum" ∨ k = "minus" ∨ k = "less") : isKindD (.str k) = true := decide_eq_true h
section
variable {P : Program} {w : World} {K : PySem.W.Frag} {mg : Str → Option Value} {base : Heap}
def spLc (K : PySem.W.Frag) (n : Nat) : Sp := fun vs H Q _ => ∃ (d g c pl C L Ch W : Addr) (cs : List (Str × Int)) (ls : List Str) (hs : List (Str × Int)) (ws : List Str) (k : Nat), vs = [.ref d, .ref pl, .int (n : Int)] ∧ Dr H d g c ∧ Play H d g c pl C L Ch W cs ls hs ws k ∧ Nm cs ls hs ws ∧
  ∀ v x H', Dp K H' v x → isCalcD x = true → Good x n → tupD x = true → wtD x ≤ cw n → Dr H' d g c → Up d g H H' → Q v H'
theorem ok_lcalc (T : Tp K w mg) : ∀ n, FnOk P w K mg base CX0 (n + 1 + 1) T.f_lcalc T.fd_lcalc ["_law_draw", "_law_play", "_law_deep"] (spLc K n) := rec_fn (c := 1) (sp := spLc K) fun n ih => by
  refine T.D_lcalc.F.ok sc_lcalc (fun vs H Q E h => ?_) (fun cdv A outer s H vs Q E hr h => ?_)
  · obtain ⟨d, g, c, pl, C, L, Ch, W, cs, ls, hs, ws, k, rfl, _⟩ := h
    rfl
  · obtain ⟨d, g, c, pl, C, L, Ch, W, cs, ls, hs, ws, k, rfl, D, Y, N, q⟩ := h
    have hu := hu_of hr
    refine ⟨_, (pss_cons (ps_set (i := 3) sc_lcalc.nd rfl (.inl rfl) (pcall T.D_next (ok_next T) (hr.mono (by omega)) (by rfl) (pa_cons (pv 0) (pa_cons pe_int pa_nil))))
  (Evl.pss_cut (ps_if (PW.pt (pw_and (pt_cmpR op_gt (pv 2) pe_int (nomark _)) (pw_and1 (pt_cmpR op_gt (pv 3) pe_int (nomark _)))))
  (pss_cons (ps_set (i := 4) sc_lcalc.nd rfl (.inl rfl) (pe_ix ix_list (pe_lst (pa_cons pe_str (pa_cons pe_str (pa_cons pe_str pa_nil)))) (pcall T.D_next (ok_next T) (hr.mono (by omega)) (by rfl) (pa_cons (pv 0) (pa_cons pe_int pa_nil))) (fun _ _ => rfl)))
  (pss_cons (ps_set (i := 5) sc_lcalc.nd rfl (.inl rfl) (pcall T.D_lcalc ih (hr.mono (by omega)) (by rfl) (pa_cons (pv 0) (pa_cons (pv 1) (pa_cons (pe_op op_sub (pv 2) pe_int) pa_nil)))))
  (pss_one (ps_ret (pe_tup (pa_cons (pv 4) (pa_cons (pv 5) (pa_cons (pcall T.D_lcalc ih (hr.mono (by omega)) (by rfl) (pa_cons (pv 0) (pa_cons (pv 1) (pa_cons (pe_op op_sub (pv 2) pe_int) pa_nil)))) pa_nil))))))))
  pss_nil)
  (pss_cons (ps_set (i := 6) sc_lcalc.nd rfl (.inl rfl) (pe_ix ix_list (pe_lst (pa_cons (pe_op op_sub (pcall T.D_next (ok_next T) (hr.mono (by omega)) (by rfl) (pa_cons (pv 0) (pa_cons pe_int pa_nil))) pe_int) (pa_cons (pcall T.D_next (ok_next T) (hr.mono (by omega)) (by rfl) (pa_cons (pv 0) (pa_cons (pe_op op_pow pe_int pe_int) pa_nil))) (pa_cons (pe_op op_sub pe_int (pcall T.D_next (ok_next T) (hr.mono (by omega)) (by rfl) (pa_cons (pv 0) (pa_cons (pe_op op_pow pe_int pe_int) pa_nil)))) pa_nil)))) (pcall T.D_next (ok_next T) (hr.mono (by omega)) (by rfl) (pa_cons (pv 0) (pa_cons pe_int pa_nil))) (fun _ _ => rfl)))
  (pss_one (ps_ret (pe_ifExp (pt_cmpR op_eq (pv 3) pe_int (nomark _)) (pv 6) (pe_ix ix_list (pe_dget hu (pv 1) pe_str (fun _ _ => rfl)) (pcall T.D_next (ok_next T) (hr.mono (by omega)) (by rfl) (pa_cons (pv 0) (pa_cons pe_int pa_nil))) (fun _ _ => rfl)))))))), ?_⟩
    -- way
    refine ⟨_, rfl, d, g, c, 5, rfl, D, by decide, by decide, fun way H1 w0 w1 D1 u1 => ?_⟩
    refine ⟨fun σ H2 => (∃ y4 y5 y6, σ = [some (.ref d), some (.ref pl), some (.int (n : Int)), some (.int way), y4, y5, y6]) ∧ H2 = H1, ?_, ?_⟩
    · have out : ∃ y4 y5 y6, (start ["_law_draw", "_law_play", "_law_deep", "_law_way", "_law_kind", "_law_one", "_law_number"] [.ref d, .ref pl, .int (n : Int)]).set 3 (some (.int way)) = [some (.ref d), some (.ref pl), some (.int (n : Int)), some (.int way), y4, y5, y6] := ⟨_, _, _, rfl⟩
      refine ⟨_, rfl, _, _, rfl, rfl, _, rfl, ite2 (fun hn => ?_) (fun _ => iteF ⟨out, rfl⟩)⟩
      refine ⟨_, rfl, _, _, rfl, rfl, _, rfl, ite2 (fun _ => ?_) (fun _ => ⟨out, rfl⟩)⟩
      have hn : (0 : Int) < (n : Int) := of_decide_eq_true hn
      obtain ⟨m, rfl⟩ : ∃ m, n = m + 1 := ⟨n - 1, by omega⟩
      have em : (((m + 1 : Nat) : Int) - 1) = (m : Int) := by omega
      -- kind
      refine ⟨by show 3 ≤ sizeLine; decide, fun l nl => ?_⟩
      have s2 := same_upd (o := .lst ((["sum", "minus", "less"] : List Str).map V.str)) nl
      have hl2 : (upd H1 l (.lst [.str "sum", .str "minus", .str "less"])) l = some (.lst ((["sum", "minus", "less"] : List Str).map V.str)) := upd_same
      have lD := D1.apart nl
      refine ⟨_, rfl, d, g, c, 3, rfl, D1.same s2, by decide, by decide, fun r H3 r0 r1 D3 u3 => ?_⟩
      obtain ⟨j, rfl⟩ : ∃ j : Nat, r = (j : Int) := ⟨r.toNat, by omega⟩
      obtain ⟨kd, ek, hkd⟩ : ∃ kd : Str, (["sum", "minus", "less"] : List Str)[j]? = some kd ∧ (kd = "sum" ∨ kd = "minus" ∨ kd = "less") := by
        match j, r1 with
        | 0, _ => exact ⟨_, rfl, .inl rfl⟩
        | 1, _ => exact ⟨_, rfl, .inr (.inl rfl)⟩
        | 2, _ => exact ⟨_, rfl, .inr (.inr rfl)⟩
        | n + 3, h => omega
      refine ⟨l, _, _, .str kd, rfl, rfl, sl (u3 _ _ hl2 lD.1 lD.2.1), atI_nat (by rw [List.getElem?_map, ek]; rfl), ?_⟩
      have u13 : Up d g H1 H3 := (Up.of s2).trans u3
      -- one
      refine ⟨_, rfl, _, rfl, _, rfl, _, _, rfl, rfl, d, g, c, pl, C, L, Ch, W, cs, ls, hs, ws, k, by show [V.ref d, V.ref pl, V.int (((m + 1 : Nat) : Int) - 1)] = _; rw [em], D3, (Y.up u1).up u13, N, fun v1 x1 H4 a1 c1 g1 t1 w1' D4 u4 => ?_⟩
      -- the pair
      refine ⟨_, rfl, _, rfl, _, rfl, _, rfl, _, rfl, _, _, rfl, rfl, d, g, c, pl, C, L, Ch, W, cs, ls, hs, ws, k, by show [V.ref d, V.ref pl, V.int (((m + 1 : Nat) : Int) - 1)] = _; rw [em], D4, ((Y.up u1).up u13).up u4, N, fun v2 x2 H5 a2 c2 g2 t2 w2' D5 u5 => ?_⟩
      refine ⟨by show 3 ≤ sizeLine; decide, fun p np => ?_⟩
      obtain ⟨s6, d6⟩ := new_tup (K := K) np (.cons (.str kd) (.cons (u5.dp D4 t1 a1) (.cons a2 .nil)))
      refine q _ (.tuple [.str kd, x1, x2]) _ d6 ?_ ?_ ?_ ?_ (D5.same s6) ((((u1.trans u13).trans u4).trans u5).trans (Up.of s6))
      · show (isKindD (.str kd) && (isCalcD x1 && isCalcD x2)) = true
        rw [kindD_ok hkd, c1, c2]
        rfl
      · refine Good.tup (fun y hy => ?_) (by show 3 ≤ 10000; decide)
        rcases List.mem_cons.mp hy with rfl | hy
        · refine Good.str (str_lit ?_) _
          rcases hkd with rfl | rfl | rfl <;> decide +kernel
        · rcases List.mem_cons.mp hy with rfl | hy
          · exact g1
          · rw [List.mem_singleton.mp hy]; exact g2
      · simp only [tupD, tupAll, t1, t2, Bool.and_self]
      · have lk : kd.length ≤ 5 := by rcases hkd with rfl | rfl | rfl <;> decide +kernel
        show 4 + (kd.length + 4 + (wtD x1 + (wtD x2 + 0))) ≤ 14 + 2 * cw m
        omega
    · rintro σ H2 ⟨⟨y4, y5, y6, rfl⟩, rfl⟩
      -- number
      refine ⟨_, rfl, d, g, c, 7, rfl, D1, by decide, by decide, fun r1 H3 r10 r11 D3 u3 => ⟨_, _, rfl, rfl, ?_⟩⟩
      refine ⟨_, rfl, _, _, rfl, rfl, ⟨by decide, by decide, by decide⟩, d, g, c, (10 : Int) ^ (12 : Int).toNat, rfl, D3, by decide, by decide, fun r2 H4 r20 r21 D4 u4 => ?_⟩
      refine ⟨_, rfl, _, _, rfl, rfl, ⟨by decide, by decide, by decide⟩, d, g, c, (10 : Int) ^ (6 : Int).toNat, rfl, D4, by decide, by decide, fun r3 H5 r30 r31 D5 u5 => ⟨_, _, rfl, rfl, by show 3 ≤ sizeLine; decide, fun l nl => ?_⟩⟩
      have s6 := same_upd (o := .lst ([r1 - 3, r2, 0 - r3].map V.int)) nl
      have hl6 : (upd H5 l (.lst [.int (r1 - 3), .int r2, .int (0 - r3)])) l = some (.lst ([r1 - 3, r2, 0 - r3].map V.int)) := upd_same
      have lD := D5.apart nl
      refine ⟨_, rfl, d, g, c, 3, rfl, D5.same s6, by decide, by decide, fun r H7 r0 r1' D7 u7 => ?_⟩
      obtain ⟨j, rfl⟩ : ∃ j : Nat, r = (j : Int) := ⟨r.toNat, by omega⟩
      have hj : j < [r1 - 3, r2, 0 - r3].length := by show j < 3; omega
      refine ⟨l, _, _, .int ([r1 - 3, r2, 0 - r3][j]), rfl, rfl, sl (u7 _ _ hl6 lD.1 lD.2.1), atI_nat (by rw [List.getElem?_map, List.getElem?_eq_getElem hj]; rfl), ?_⟩
      have hnm0 : [r1 - 3, r2, 0 - r3][j] ∈ [r1 - 3, r2, 0 - r3] := List.getElem_mem hj
      have hnb : ∀ y : Int, y ∈ [r1 - 3, r2, 0 - r3] → y.natAbs ≤ 10 ^ 13 := fun y hy => by
        have e1 : ((10 : Int) ^ (12 : Int).toNat) = 1000000000000 := by decide
        have e2 : ((10 : Int) ^ (6 : Int).toNat) = 1000000 := by decide
        have e3 : (10 : Nat) ^ 13 = 10000000000000 := by decide
        rw [e1] at r21
        rw [e2] at r31
        rw [e3]
        simp only [List.mem_cons, List.not_mem_nil, or_false] at hy
        rcases hy with rfl | rfl | rfl <;> omega
      generalize [r1 - 3, r2, 0 - r3][j] = nm at hnm0 ⊢
      have u07 : Up d g H H7 := ((((u1.trans u3).trans u4).trans u5).trans (Up.of s6)).trans u7
      refine ⟨_, rfl, rfl, _, rfl, ite2 (fun _ => ?_) (fun _ => ?_)⟩
      · exact ⟨_, rfl, q _ (.int nm) _ (.int nm) rfl (Good.int _ _) rfl (by rw [wt_int (hnb nm hnm0)]; exact cw_pos n) D7 u07⟩
      · have Y7 := Y.up u07
        refine ⟨_, rfl, pl, _, rfl, DGet.k (k := Sum.inr "words") Y7.hpl, _, rfl, d, g, c, 4, rfl, D7, by decide, by decide, fun r H8 r0 r1 D8 u8 => ?_⟩
        obtain ⟨j, rfl⟩ : ∃ j : Nat, r = (j : Int) := ⟨r.toNat, by omega⟩
        have hj : j < ws.length := by rw [N.four]; omega
        have hn := N.words _ (List.getElem_mem hj)
        exact ⟨W, _, _, .str ws[j], rfl, rfl, sl (Y7.up u8).hW, atI_nat (by rw [List.getElem?_map, List.getElem?_eq_getElem hj]; rfl), q _ (.str ws[j]) _ (.str _) hn (Good.str (Low.of hn) _) rfl (Nat.le_trans (wt_name hn) (Nat.le_trans (by decide) (cw_pos n))) D8 (u07.trans u8)⟩
end
end TP
namespace TP
open PySem PySem.Spec PyProof.Rows L2 HX HB HG HU HH HD HS HV HQ HK HN TL
/-! ### unlike names -/
theorem pigeon {α : Type} [DecidableEq α] : ∀ (l m : List α), l.Nodup → (∀ x ∈ l, x ∈ m) → l.length ≤ m.length
  | [], _, _, _ => Nat.zero_le _
  | x :: l, m, hn, h => by
    have hx := h x (List.mem_cons_self ..)
    have hn' := List.nodup_cons.mp hn
    have ih := pigeon l (m.erase x) hn'.2 fun y hy => (List.mem_erase_of_ne (fun e => hn'.1 (by rw [← e]; exact hy))).mpr (h y (List.mem_cons_of_mem _ hy))
    rw [List.length_erase_of_mem hx] at ih
    have := List.length_pos_of_mem hx
    rw [List.length_cons]
    omega
def spare : List Str := ["za", "zb", "zc", "zd", "ze", "zf", "zg", "zh", "zi"]
theorem spare_names : ∀ z ∈ spare, isNameL z = true := by decide +kernel
theorem spare_nodup : spare.Nodup := by decide +kernel
section
variable {P : Program} {w : World} {K : PySem.W.Frag} {mg : Str → Option Value} {base : Heap}
def spNms : Sp := fun vs H Q _ => ∃ (d g c : Addr) (n : Nat), vs = [.ref d, .int (n : Int)] ∧ n ≤ 9 ∧ Dr H d g c ∧ ∀ (p : Addr) (zs : List Str) (H' : Hp), H p = none → H' p = some (.lst (zs.map V.str)) → zs.length = n → (∀ z ∈ zs, isNameL z = true) → zs.Nodup → Dr H' d g c → Up d g H H' → Q (.ref p) H'
theorem ok_names (T : Tp K w mg) : FnOk P w K mg base CX0 3 T.f_names T.fd_names ["_law_draw", "_law_many"] spNms := by
  refine T.D_names.F.ok sc_names (fun vs H Q E h => ?_) (fun cdv A outer s H vs Q E hr h => ?_)
  · obtain ⟨d, g, c, n, rfl, _⟩ := h
    rfl
  · obtain ⟨d, g, c, n, rfl, hn, D, q⟩ := h
    refine ⟨_, (pss_cons (ps_set (i := 2) sc_names.nd rfl (.inr rfl) (pe_lst pa_nil))
  (pss_cons (ps_for PassesOwn.never rfl (pi_range1 (by rfl) T.range (pa_cons (pv 1) pa_nil)) (pg_name (i := 3) sc_names.nd rfl (.inl rfl))
  (pss_cons (ps_set (i := 4) sc_names.nd rfl (.inl rfl) (pcall T.D_name (ok_name T) hr (by rfl) (pa_cons (pv 0) pa_nil)))
  (Evl.pss_cut (ps_if (pt_cmpR op_in_seq (pv 4) (pv 2) (by rfl))
  (pss_one (ps_set (i := 4) sc_names.nd rfl (.inl rfl) (pe_ix ix_list (pe_lc (own := [("_law_one", 5)]) (g := gName 5) (by rfl) sc_names.nd (pi_list (pe_lst (pa_cons pe_str (pa_cons pe_str (pa_cons pe_str (pa_cons pe_str (pa_cons pe_str (pa_cons pe_str (pa_cons pe_str (pa_cons pe_str (pa_cons pe_str pa_nil))))))))))) (blkOk_by (own := [("_law_one", 5)]) (N := ["_law_draw", "_law_many", "_law_found", "_law_k", "_law_name_here", "_law_one"]) (sc := defScope s_names) (by decide +kernel)) (fun _ _ _ _ _ => (pg_name (i := 5) sc_names.nd rfl (.inl rfl))) (fun _ _ _ _ _ => (pts_one (pt_cmpR (show OpR _ _ (rIn K true) from op_notIn_seq) (pv 5) (pv 2) (by rfl)))) (fun _ _ _ _ _ => (pv 5))) pe_int (fun _ _ => rfl))))
  pss_nil)
  (pss_one (ps_expr (pe_bm PySem.F.plainAttrs_list PySem.F.slot_list_append PySem.F.type_list_append mt_append (pv 2) (pa_cons (pv 4) pa_nil)))))))
  (pss_one (ps_ret (pv 2))))), ?_⟩
    refine ⟨Nat.zero_le _, fun p np => ?_⟩
    have pD := D.apart np
    have hp : (upd H p (.lst [])) p = some (.lst []) := upd_same
    have D1 := D.same (same_upd (o := .lst []) np)
    have u1 : Up d g H (upd H p (.lst [])) := Up.of (same_upd np)
    generalize upd H p (.lst []) = H1 at hp D1 u1 ⊢
    refine ⟨_, rfl, (n : Int), rfl, by omega, by omega, for_range (lo := 0) (n := ((n : Int) - 0).toNat) (fun i σ H2 => ∃ (zs : List Str) (y2 y4 y5 : Option V), σ = [some (.ref d), some (.int (n : Int)), some (.ref p), y2, y4, y5] ∧ H2 p = some (.lst (zs.map V.str)) ∧ zs.length = i ∧ (∀ z ∈ zs, isNameL z = true) ∧ zs.Nodup ∧ Dr H2 d g c ∧ Up d g H H2) ?_ ?_ ?_⟩
    · exact ⟨[], _, _, _, rfl, hp, rfl, fun _ z => (by cases z), List.nodup_nil, D1, u1⟩
    · rintro i σ H2 hi ⟨zs, y2, y4, y5, rfl, h2, hl, hz, hnd, D2, u2⟩
      refine ⟨_, rfl, d, g, c, rfl, D2, fun z H3 hnm D3 u3 => ?_⟩
      have h3 := u3 _ _ h2 pD.1 pD.2.1
      refine ⟨fun σ H4 => ∃ (z : Str) (y5 : Option V), σ = [some (.ref d), some (.int (n : Int)), some (.ref p), some (.int (0 + (i : Int))), some (.str z), y5] ∧ H4 p = some (.lst (zs.map V.str)) ∧ isNameL z = true ∧ z ∉ zs ∧ Dr H4 d g c ∧ Up d g H H4, ?_, ?_⟩
      · refine ⟨_, rfl, _, rfl, p, _, rfl, .inl (sl h3), rfl, flat_strs zs, _, rfl, ?_⟩
        rw [if_neg Bool.false_ne_true, inV_strs]
        refine ite2 (fun _ => ?_) (fun h => ⟨z, y5, rfl, h3, hnm, fun hm => h (decide_eq_true hm), D3, u2.trans u3⟩)
        refine ⟨by show 9 ≤ sizeLine; decide, fun l nl => ?_⟩
        have s4 := same_upd (o := .lst [V.str "za", V.str "zb", V.str "zc", V.str "zd", V.str "ze", V.str "zf", V.str "zg", V.str "zh", V.str "zi"]) nl
        have hl4 : (upd H3 l (.lst [V.str "za", V.str "zb", V.str "zc", V.str "zd", V.str "ze", V.str "zf", V.str "zg", V.str "zh", V.str "zi"])) l = some (.lst (spare.map V.str)) := upd_same
        generalize upd H3 l (.lst [V.str "za", V.str "zb", V.str "zc", V.str "zd", V.str "ze", V.str "zf", V.str "zg", V.str "zh", V.str "zi"]) = H4 at s4 hl4 ⊢
        refine ⟨l, rfl, ⟨_, sl hl4⟩, fun L nL => ?_⟩
        refine lc_it (walk_list (xs := spare.map V.str)) (fun i H5 => Same H4 H5 ∧ H5 L = some (.lst (((spare.take i).filter fun x => decide (x ∉ zs)).map V.str))) ⟨same_upd nL, upd_same⟩ (fun i H5 _ g => sl (g.1 _ _ hl4)) ?_ ?_
        · rintro i x H5 H6 hi ⟨sm, hL⟩ ⟨rfl, hx⟩
          rw [List.length_map] at hi
          rw [List.getElem?_map, List.getElem?_eq_getElem hi] at hx
          cases hx
          refine ⟨rfl, _, rfl, _, rfl, p, _, rfl, .inl (sl (sm _ _ (s4 _ _ h3))), rfl, flat_strs zs, _, rfl, ?_⟩
          rw [if_pos rfl, inV_strs, ← decide_not]
          have take1 : (spare.take (i + 1)).filter (fun x => decide (x ∉ zs)) = ((spare.take i).filter fun x => decide (x ∉ zs)) ++ (if spare[i] ∉ zs then [spare[i]] else []) := by
            rw [List.take_add_one, List.getElem?_eq_getElem hi, List.filter_append]
            congr 1
            by_cases hm : spare[i] ∈ zs
            · simp [hm]
            · simp [hm]
          refine ite2 (fun hm => ?_) (fun hm => ?_)
          · have hm := of_decide_eq_true hm
            refine ⟨_, rfl, _, hL, ?_, sm.own nL, ?_⟩
            · rw [List.length_map]
              exact small1000 (Nat.le_trans (List.length_filter_le _ _) (Nat.le_trans (List.length_take_le _ _) (by have : spare.length = 9 := rfl; omega)))
            · rw [upd_same, take1, if_pos hm, List.map_append]
              rfl
          · refine ⟨sm, ?_⟩
            rw [take1, if_neg (fun h => hm (decide_eq_true h)), List.append_nil]
            exact hL
        · rintro H5 ⟨sm, hL⟩
          rw [List.length_map, List.take_length] at hL
          have some1 : ∃ z1 r, (spare.filter fun x => decide (x ∉ zs)) = z1 :: r := by
            cases e : spare.filter fun x => decide (x ∉ zs) with
            | cons z1 r => exact ⟨z1, r, rfl⟩
            | nil =>
              have all : ∀ x ∈ spare, x ∈ zs := fun x hx => by
                have := List.filter_eq_nil_iff.mp e x hx
                simpa using this
              have := pigeon spare zs spare_nodup all
              have e9 : spare.length = 9 := rfl
              omega
          obtain ⟨z1, r, e1⟩ := some1
          have hz1 : z1 ∈ spare.filter fun x => decide (x ∉ zs) := by rw [e1]; exact List.mem_cons_self ..
          obtain ⟨m1, m2⟩ := List.mem_filter.mp hz1
          rw [e1] at hL
          refine ⟨L, _, _, .str z1, rfl, rfl, sl hL, atI_nat (j := 0) rfl, z1, y5, rfl, sm _ _ (s4 _ _ h3), spare_names _ m1, of_decide_eq_true m2, D3.same (s4.trans sm), (u2.trans u3).trans (Up.of (s4.trans sm))⟩
      · rintro σ H4 ⟨z, y5, rfl, h4, hnm, hnz, D4, u4⟩
        refine ⟨_, rfl, .inl ⟨rfl, _, sl h4⟩, _, rfl, p, _, _, rfl, rfl, h4, by rw [List.length_map]; exact small1000 (by omega), ?_⟩
        refine ⟨zs ++ [z], _, _, _, rfl, by rw [upd_same, List.map_append]; rfl, by rw [List.length_append, hl]; rfl, ?_, ?_, D4.set pD.1 pD.2.1 pD.2.2, u4.own np⟩
        · intro y hy
          rcases List.mem_append.mp hy with hy | hy
          · exact hz y hy
          · rw [List.mem_singleton.mp hy]; exact hnm
        · rw [List.nodup_append]
          exact ⟨hnd, by simp, fun a ha b hb e => hnz (by rw [List.mem_singleton.mp hb] at e; exact e ▸ ha)⟩
    · rintro σ H2 ⟨zs, y2, y4, y5, rfl, h2, hl, hz, hnd, D2, u2⟩
      exact ⟨_, rfl, q p zs H2 np h2 (by omega) hz hnd D2 u2⟩
end
end TP
namespace TP
open PySem PySem.Spec PyProof.Rows L2 HX HB HG HU HH HD HS HV HQ HK HN TL
/-- the play, ahead of the rows -/
structure Play4 (H : Hp) (d g c pl C L Ch W : Addr) (cs : List (Str × Int)) (ls : List Str) (hs : List (Str × Int)) (ws : List Str) : Prop where
  hpl : H pl = some (.dK (pl4 C L Ch W))
  hC : H C = some (.dK (dI cs))
  hL : H L = some (.lst (ls.map V.str))
  hCh : H Ch = some (.dK (dI hs))
  hW : H W = some (.lst (ws.map V.str))
  nC : C ∉ [d, g, pl]
  nL : L ∉ [d, g, pl]
  nCh : Ch ∉ [d, g, pl]
  nW : W ∉ [d, g, pl]
  npl : pl ≠ d ∧ pl ≠ g ∧ pl ≠ c
  nCc : C ≠ c ∧ Ch ≠ c ∧ C ≠ Ch
section
variable {K : PySem.W.Frag} {H H' : Hp} {d g c pl C L Ch W : Addr} {cs : List (Str × Int)} {ls : List Str} {hs : List (Str × Int)} {ws : List Str}
theorem Play4.up (Y : Play4 H d g c pl C L Ch W cs ls hs ws) (u : Up d g H H') : Play4 H' d g c pl C L Ch W cs ls hs ws := by
  have b := up_but3 (pl := pl) u
  exact ⟨u _ _ Y.hpl Y.npl.1 Y.npl.2.1, b _ _ Y.hC Y.nC, b _ _ Y.hL Y.nL, b _ _ Y.hCh Y.nCh, b _ _ Y.hW Y.nW, Y.nC, Y.nL, Y.nCh, Y.nW, Y.npl, Y.nCc⟩
theorem Play4.put (Y : Play4 H d g c pl C L Ch W cs ls hs ws) (k : Nat) : Play (upd H pl (.dK (pl5 C L Ch W (k : Int)))) d g c pl C L Ch W cs ls hs ws k := by
  have ne : ∀ {x : Addr}, x ∉ [d, g, pl] → x ≠ pl := fun h e => h (by rw [e]; simp)
  exact ⟨upd_same, by rw [upd_ne (ne Y.nC)]; exact Y.hC, by rw [upd_ne (ne Y.nL)]; exact Y.hL, by rw [upd_ne (ne Y.nCh)]; exact Y.hCh, by rw [upd_ne (ne Y.nW)]; exact Y.hW, Y.nC, Y.nL, Y.nCh, Y.nW, Y.npl, Y.nCc.2.2⟩
theorem Play4.setC (Y : Play4 H d g c pl C L Ch W cs ls hs ws) {cs' : List (Str × Int)} : Play4 (upd H C (.dK (dI cs'))) d g c pl C L Ch W cs' ls hs ws := by
  have e1 : C ≠ pl := fun e => Y.nC (by rw [e]; simp)
  refine ⟨by rw [upd_ne e1.symm]; exact Y.hpl, upd_same, ?_, by rw [upd_ne Y.nCc.2.2.symm]; exact Y.hCh, ?_, Y.nC, Y.nL, Y.nCh, Y.nW, Y.npl, Y.nCc⟩
  · rw [upd_ne (ne_of Y.hL Y.hC (by intro z; cases z))]; exact Y.hL
  · rw [upd_ne (ne_of Y.hW Y.hC (by intro z; cases z))]; exact Y.hW
theorem Play4.setCh (Y : Play4 H d g c pl C L Ch W cs ls hs ws) {hs' : List (Str × Int)} : Play4 (upd H Ch (.dK (dI hs'))) d g c pl C L Ch W cs ls hs' ws := by
  have e1 : Ch ≠ pl := fun e => Y.nCh (by rw [e]; simp)
  refine ⟨by rw [upd_ne e1.symm]; exact Y.hpl, by rw [upd_ne Y.nCc.2.2]; exact Y.hC, ?_, upd_same, ?_, Y.nC, Y.nL, Y.nCh, Y.nW, Y.npl, Y.nCc⟩
  · rw [upd_ne (ne_of Y.hL Y.hCh (by intro z; cases z))]; exact Y.hL
  · rw [upd_ne (ne_of Y.hW Y.hCh (by intro z; cases z))]; exact Y.hW
end
theorem put_new (z : Str) (v : Int) (cs : List (Str × Int)) (h : z ∉ cs.map (·.1)) : putK (dI cs) (Sum.inr z) (.int v) = dI (cs ++ [(z, v)]) := by
  have hk : valV (dI cs) (Sum.inr z : Key) = none := by
    unfold valV
    have e : (dI cs).find? (fun kv => decide (kv.1 = (Sum.inr z : Key))) = none := List.find?_eq_none.mpr fun kv hkv => by
      unfold dI at hkv
      obtain ⟨q, hq, rfl⟩ := List.mem_map.mp hkv
      rw [decide_eq_true_eq]
      intro e
      exact h (List.mem_map.mpr ⟨q, hq, Sum.inr.inj e⟩)
    rw [e]
    rfl
  rw [putK_new _ hk]
  unfold dI
  rw [List.map_append]
  rfl
theorem Up.free {d g : Addr} {H H' : Hp} (u : Up d g H H') {b : Addr} (n : H' b = none) (h1 : b ≠ d) (h2 : b ≠ g) : H b = none := by
  cases e : H b with
  | none => rfl
  | some o => rw [u _ _ e h1 h2] at n; cases n
/-- .. so far: the first i names -/
structure Part (kvs : List (Str × Int)) (zs : List Str) (l u : Int) : Prop where
  keys : kvs.map (·.1) = zs
  rng : ∀ q ∈ kvs, l ≤ q.2 ∧ q.2 ≤ u
theorem Part.snoc {kvs : List (Str × Int)} {zs : List Str} {l u v : Int} {z : Str} (h : Part kvs zs l u) (h1 : l ≤ v) (h2 : v ≤ u) : Part (kvs ++ [(z, v)]) (zs ++ [z]) l u := by
  refine ⟨by rw [List.map_append, h.keys]; rfl, fun q hq => ?_⟩
  rcases List.mem_append.mp hq with hq | hq
  · exact h.rng q hq
  · rw [List.mem_singleton.mp hq]; exact ⟨h1, h2⟩
theorem Part.sz {kvs : List (Str × Int)} {zs : List Str} {l u : Int} (h : Part kvs zs l u) (hn : ∀ z ∈ zs, isNameL z = true) (nd : zs.Nodup) (few : zs.length ≤ 4) : Sz kvs l u :=
  ⟨fun q hq => hn _ (by rw [← h.keys]; exact List.mem_map.mpr ⟨q, hq, rfl⟩), by rw [h.keys]; exact nd, by have := congrArg List.length h.keys; rw [List.length_map] at this; omega, h.rng⟩
section
variable {P : Program} {w : World} {K : PySem.W.Frag} {mg : Str → Option Value} {base : Heap}
def spHead : Sp := fun vs H Q _ => ∃ (d g c : Addr), vs = [.ref d] ∧ Dr H d g c ∧
  ∀ pl C L Ch W cs ls hs ws H', Nm cs ls hs ws → H pl = none → Dr H' d g c → Up d g H H' → Play4 H' d g c pl C L Ch W cs ls hs ws → Q (.ref pl) H'
theorem ok_head (T : Tp K w mg) : FnOk P w K mg base CX0 4 T.f_head T.fd_head ["_law_draw"] spHead := by
  refine T.D_head.F.ok sc_head (fun vs H Q E h => ?_) (fun cdv A outer s H vs Q E hr h => ?_)
  · obtain ⟨d, g, c, rfl, _⟩ := h
    rfl
  · obtain ⟨d, g, c, rfl, D, q⟩ := h
    have hu := hu_of hr
    refine ⟨_, (pss_cons (ps_set (i := 1) sc_head.nd rfl (.inl rfl) (pe_disp (pps_cons pe_str pe_dnewK (pps_cons pe_str (pcall T.D_names (ok_names T) hr (by rfl) (pa_cons (pv 0) (pa_cons (pcall T.D_next (ok_next T) (hr.mono (by decide)) (by rfl) (pa_cons (pv 0) (pa_cons pe_int pa_nil))) pa_nil))) (pps_cons pe_str pe_dnewK (pps_cons pe_str (pcall T.D_names (ok_names T) hr (by rfl) (pa_cons (pv 0) (pa_cons pe_int pa_nil))) pps_nil)))) (by rfl) (by rfl) (fun z => by cases z) (by decide)))
  (pss_cons (ps_for PassesOwn.never rfl (pi_list (pcall T.D_names (ok_names T) hr (by rfl) (pa_cons (pv 0) (pa_cons (pcall T.D_next (ok_next T) (hr.mono (by decide)) (by rfl) (pa_cons (pv 0) (pa_cons pe_int pa_nil))) pa_nil)))) (pg_name (i := 2) sc_head.nd rfl (.inl rfl))
  (pss_one (ps_dput hu (pe_dget hu (pv 1) pe_str (fun _ _ => rfl)) (pv 2) (pe_ix ix_list (pe_lst (pa_cons (pe_op op_sub (pcall T.D_next (ok_next T) (hr.mono (by decide)) (by rfl) (pa_cons (pv 0) (pa_cons pe_int pa_nil))) pe_int) (pa_cons (pe_ix ix_list (pe_lst (pa_cons (pe_un un_neg pe_int) (pa_cons pe_int (pa_cons pe_int pa_nil)))) (pcall T.D_next (ok_next T) (hr.mono (by decide)) (by rfl) (pa_cons (pv 0) (pa_cons pe_int pa_nil))) (fun _ _ => rfl)) pa_nil))) (pcall T.D_next (ok_next T) (hr.mono (by decide)) (by rfl) (pa_cons (pv 0) (pa_cons pe_int pa_nil))) (fun _ _ => rfl)) rfl)))
  (pss_cons (ps_for PassesOwn.never rfl (pi_list (pcall T.D_names (ok_names T) hr (by rfl) (pa_cons (pv 0) (pa_cons (pcall T.D_next (ok_next T) (hr.mono (by decide)) (by rfl) (pa_cons (pv 0) (pa_cons pe_int pa_nil))) pa_nil)))) (pg_name (i := 2) sc_head.nd rfl (.inl rfl))
  (pss_one (ps_dput hu (pe_dget hu (pv 1) pe_str (fun _ _ => rfl)) (pv 2) (pe_op op_add pe_int (pcall T.D_next (ok_next T) (hr.mono (by decide)) (by rfl) (pa_cons (pv 0) (pa_cons pe_int pa_nil)))) rfl)))
  (pss_one (ps_ret (pv 1)))))), ?_⟩
    refine fun pl npl => ?_
    have plD := D.apart npl
    have s1 := same_upd (o := .dK []) npl
    have hpl : (upd H pl (.dK [])) pl = some (.dK []) := upd_same
    generalize upd H pl (.dK []) = H1 at s1 hpl ⊢
    intro C nC
    have newC : H C = none := s1.free nC
    have CD := (D.same s1).apart nC
    have Cpl : C ≠ pl := (ne_of_none hpl nC).symm
    have s2 := s1.trans (same_upd (o := .dK []) nC)
    have hpl := same_upd (o := .dK []) nC _ _ hpl
    have hC : (upd H1 C (.dK [])) C = some (.dK []) := upd_same
    generalize upd H1 C (.dK []) = H2 at s2 hpl hC ⊢
    refine ⟨_, rfl, _, rfl, d, g, c, 5, rfl, D.same s2, by decide, by decide, fun r H3 r0 r1 D3 u3 => ?_⟩
    obtain ⟨n, rfl⟩ : ∃ n : Nat, r = (n : Int) := ⟨r.toNat, by omega⟩
    refine ⟨d, g, c, n, rfl, by omega, D3, fun L ls H4 nL hL lsl hls nls D4 u4 => ?_⟩
    have LD := D3.apart nL
    have u24 := u3.trans u4
    have hpl := u24 _ _ hpl plD.1 plD.2.1
    have hC := u24 _ _ hC CD.1 CD.2.1
    intro Ch nCh
    have ChD := D4.apart nCh
    have newCh : H Ch = none := ((Up.of s2).trans u24).free nCh ChD.1 ChD.2.1
    have s5 := same_upd (o := .dK []) nCh
    have hpl' := s5 _ _ hpl
    have hC' := s5 _ _ hC
    have hL' := s5 _ _ hL
    have hCh : (upd H4 Ch (.dK [])) Ch = some (.dK []) := upd_same
    generalize upd H4 Ch (.dK []) = H5 at s5 hpl' hC' hL' hCh ⊢
    refine ⟨_, rfl, d, g, c, 4, rfl, by decide, D4.same s5, fun W ws H6 nW hW wsl hws nws D6 u6 => ?_⟩
    have WD := (D4.same s5).apart nW
    have u06 : Up d g H H6 := (Up.of s2).trans ((u24.trans (Up.of s5)).trans u6)
    have hpl6 := u6 _ _ hpl' plD.1 plD.2.1
    have hC6 := u6 _ _ hC' CD.1 CD.2.1
    have hL6 := u6 _ _ hL' LD.1 LD.2.1
    have hCh6 := u6 _ _ hCh ChD.1 ChD.2.1
    refine ⟨hpl6, pl4 C L Ch W, rfl, by show 4 ≤ 15; decide, ?_⟩
    have CCh : C ≠ Ch := ne_of_none hC nCh
    have ChP : Ch ≠ pl := (ne_of_none hpl nCh).symm
    have LP : L ≠ pl := ne_of hL6 hpl6 (by intro z; cases z)
    have WP : W ≠ pl := ne_of hW hpl6 (by intro z; cases z)
    have n3 : ∀ {x : Addr}, x ≠ d → x ≠ g → x ≠ pl → x ∉ [d, g, pl] := fun h1 h2 h3 m => by
      simp only [List.mem_cons, List.not_mem_nil, or_false] at m
      rcases m with m | m | m
      · exact h1 m
      · exact h2 m
      · exact h3 m
    have Y7 : Play4 (upd H6 pl (.dK (mergeK [] (pl4 C L Ch W)))) d g c pl C L Ch W [] ls [] ws :=
      ⟨upd_same, by rw [upd_ne Cpl]; exact hC6, by rw [upd_ne LP]; exact hL6, by rw [upd_ne ChP]; exact hCh6, by rw [upd_ne WP]; exact hW, n3 CD.1 CD.2.1 Cpl, n3 LD.1 LD.2.1 LP, n3 ChD.1 ChD.2.1 ChP, n3 WD.1 WD.2.1 WP, plD, CD.2.2, ChD.2.2, CCh⟩
    have D7 := D6.set (o := .dK (mergeK [] (pl4 C L Ch W))) plD.1 plD.2.1 plD.2.2
    have u07 := u06.own (o := .dK (mergeK [] (pl4 C L Ch W))) npl
    generalize upd H6 pl (.dK (mergeK [] (pl4 C L Ch W))) = H7 at Y7 D7 u07 ⊢
    clear hpl6 hC6 hL6 hCh6 hW hpl hC hL hpl' hC' hL' hCh s1 s2 u24 s5 u3 u4 u6 u06 D3 D4 D6
    -- the cells
    refine ⟨_, rfl, _, rfl, d, g, c, 5, rfl, D7, by decide, by decide, fun r H8 r0 r1 D8 u8 => ?_⟩
    obtain ⟨m, rfl⟩ : ∃ m : Nat, r = (m : Int) := ⟨r.toNat, by omega⟩
    refine ⟨d, g, c, m, rfl, by omega, D8, fun p zs H9 np hp zl hzn nz D9 u9 => ?_⟩
    have pD := D8.apart np
    have pP : p ≠ pl := (ne_of_none ((Y7.up u8).hpl) np).symm
    have pC : p ≠ C := (ne_of_none ((Y7.up u8).hC) np).symm
    have pCh : p ≠ Ch := (ne_of_none ((Y7.up u8).hCh) np).symm
    have few : m ≤ 4 := by omega
    refine ⟨p, rfl, ⟨_, sl hp⟩, for_list (xs := zs.map V.str) (fun i σ Ha => ∃ (y2 : Option V) (cs : List (Str × Int)), σ = [some (.ref d), some (.ref pl), y2] ∧ Part cs (zs.take i) (-99) 99 ∧ Play4 Ha d g c pl C L Ch W cs ls [] ws ∧ Dr Ha d g c ∧ Up d g H Ha ∧ Ha p = some (.lst (zs.map V.str))) ⟨_, [], rfl, ⟨rfl, fun _ h => by cases h⟩, (Y7.up u8).up u9, D9, (u07.trans u8).trans u9, hp⟩ (fun i σ Ha _ ⟨_, _, _, _, _, _, _, h⟩ => sl h) ?_ ?_⟩
    · rintro i x σ Ha hx ⟨y2, cs, rfl, hpt, Ya, Da, ua, hpa⟩
      have hi : i < zs.length := by have := (List.getElem?_eq_some_iff.mp hx).1; rwa [List.length_map] at this
      rw [List.getElem?_map, List.getElem?_eq_getElem hi] at hx
      cases hx
      -- the number
      refine ⟨_, rfl, d, g, c, 199, rfl, Da, by decide, by decide, fun r1 Hb r10 r11 Db ub => ⟨_, _, rfl, rfl, ?_⟩⟩
      refine ⟨99, rfl, by show 3 ≤ sizeLine; decide, fun l nl => ?_⟩
      have sl_ := same_upd (o := .lst (([-99, 99, 0] : List Int).map V.int)) nl
      have hl : (upd Hb l (.lst [.int (-99), .int 99, .int 0])) l = some (.lst (([-99, 99, 0] : List Int).map V.int)) := upd_same
      have lD := Db.apart nl
      refine ⟨_, rfl, d, g, c, 3, rfl, Db.same sl_, by decide, by decide, fun r2 Hc r20 r21 Dc uc => ?_⟩
      obtain ⟨j2, rfl⟩ : ∃ j : Nat, r2 = (j : Int) := ⟨r2.toNat, by omega⟩
      obtain ⟨v2, ev2, v20, v21⟩ : ∃ v : Int, ([-99, 99, 0] : List Int)[j2]? = some v ∧ -99 ≤ v ∧ v ≤ 99 := by
        match j2, r21 with
        | 0, _ => exact ⟨_, rfl, by decide, by decide⟩
        | 1, _ => exact ⟨_, rfl, by decide, by decide⟩
        | 2, _ => exact ⟨_, rfl, by decide, by decide⟩
        | n + 3, h => omega
      refine ⟨l, _, _, .int v2, rfl, rfl, sl (uc _ _ hl lD.1 lD.2.1), atI_nat (by rw [List.getElem?_map, ev2]; rfl), by show 2 ≤ sizeLine; decide, fun l2 nl2 => ?_⟩
      have s2_ := same_upd (o := .lst (([r1 - 99, v2] : List Int).map V.int)) nl2
      have hl2 : (upd Hc l2 (.lst [.int (r1 - 99), .int v2])) l2 = some (.lst (([r1 - 99, v2] : List Int).map V.int)) := upd_same
      have l2D := Dc.apart nl2
      refine ⟨_, rfl, d, g, c, 2, rfl, Dc.same s2_, by decide, by decide, fun r3 Hd r30 r31 Dd ud => ?_⟩
      obtain ⟨j3, rfl⟩ : ∃ j : Nat, r3 = (j : Int) := ⟨r3.toNat, by omega⟩
      obtain ⟨v, ev, v0, v1⟩ : ∃ v : Int, ([r1 - 99, v2] : List Int)[j3]? = some v ∧ -99 ≤ v ∧ v ≤ 99 := by
        match j3, r31 with
        | 0, _ => exact ⟨_, rfl, by omega, by omega⟩
        | 1, _ => exact ⟨_, rfl, v20, v21⟩
        | n + 2, h => omega
      have uad : Up d g Ha Hd := ((ub.trans (Up.of sl_)).trans uc).trans ((Up.of s2_).trans ud)
      have Yd := Ya.up uad
      refine ⟨l2, _, _, .int v, rfl, rfl, sl (ud _ _ hl2 l2D.1 l2D.2.1), atI_nat (by rw [List.getElem?_map, ev]; rfl), ?_⟩
      have hz : zs[i] ∉ cs.map (·.1) := by
        rw [hpt.keys]
        intro m
        obtain ⟨k, hk, e⟩ := List.mem_iff_getElem.mp m
        rw [List.length_take] at hk
        rw [List.getElem_take] at e
        exact (List.pairwise_iff_getElem.mp nz) k i (by omega) hi (by omega) e
      have lcs : cs.length ≤ 4 := by
        have := congrArg List.length hpt.keys
        rw [List.length_map, List.length_take] at this
        omega
      refine ⟨_, rfl, pl, _, rfl, DGet.k (k := Sum.inr "cells") Yd.hpl, _, rfl, C, _, rfl, DPut.k (k := Sum.inr zs[i]) Yd.hC (by unfold dI; rw [List.length_map]; exact small1000 (by omega)), ?_⟩
      rw [put_new _ _ _ hz]
      refine ⟨_, cs ++ [(zs[i], v)], rfl, ?_, Yd.setC, Dd.set CD.1 CD.2.1 CD.2.2, (ua.trans uad).own newC, ?_⟩
      · rw [List.take_add_one, List.getElem?_eq_getElem hi]
        exact hpt.snoc v0 v1
      · rw [upd_ne pC]
        exact uad _ _ hpa pD.1 pD.2.1
    · rintro σ Ha ⟨y2, cs, rfl, hpt, Ya, Da, ua, hpa⟩
      rw [List.length_map, List.take_length] at hpt
      have newD : Ch ≠ d ∧ Ch ≠ g := ⟨ChD.1, ChD.2.1⟩
      have SC := hpt.sz hzn nz (by omega)
      clear u07 D7 Y7 D8 u8 D9 u9 hp np pD pP pC pCh
      -- the channels
      refine ⟨_, rfl, _, rfl, d, g, c, 5, rfl, Da, by decide, by decide, fun r H8 r0' r1' D8 u8 => ?_⟩
      obtain ⟨m2, rfl⟩ : ∃ m : Nat, r = (m : Int) := ⟨r.toNat, by omega⟩
      refine ⟨d, g, c, m2, rfl, by omega, D8, fun p zs H9 np hp zl hzn nz D9 u9 => ?_⟩
      have pD := D8.apart np
      have pCh : p ≠ Ch := (ne_of_none ((Ya.up u8).hCh) np).symm
      refine ⟨p, rfl, ⟨_, sl hp⟩, for_list (xs := zs.map V.str) (fun i σ Hb => ∃ (y2 : Option V) (hs : List (Str × Int)), σ = [some (.ref d), some (.ref pl), y2] ∧ Part hs (zs.take i) 1 4 ∧ Play4 Hb d g c pl C L Ch W cs ls hs ws ∧ Dr Hb d g c ∧ Up d g H Hb ∧ Hb p = some (.lst (zs.map V.str))) ⟨_, [], rfl, ⟨rfl, fun _ h => by cases h⟩, (Ya.up u8).up u9, D9, (ua.trans u8).trans u9, hp⟩ (fun i σ Ha _ ⟨_, _, _, _, _, _, _, h⟩ => sl h) ?_ ?_⟩
      · rintro i x σ Hb hx ⟨y2, hs, rfl, hpt, Yb, Db, ub, hpb⟩
        have hi : i < zs.length := by have := (List.getElem?_eq_some_iff.mp hx).1; rwa [List.length_map] at this
        rw [List.getElem?_map, List.getElem?_eq_getElem hi] at hx
        cases hx
        refine ⟨_, rfl, d, g, c, 4, rfl, Db, by decide, by decide, fun r1 Hc r10 r11 Dc uc => ⟨_, _, rfl, rfl, ?_⟩⟩
        have Yc := Yb.up uc
        have hz : zs[i] ∉ hs.map (·.1) := by
          rw [hpt.keys]
          intro m
          obtain ⟨k, hk, e⟩ := List.mem_iff_getElem.mp m
          rw [List.length_take] at hk
          rw [List.getElem_take] at e
          exact (List.pairwise_iff_getElem.mp nz) k i (by omega) hi (by omega) e
        have lcs : hs.length ≤ 4 := by
          have := congrArg List.length hpt.keys
          rw [List.length_map, List.length_take] at this
          omega
        refine ⟨_, rfl, pl, _, rfl, DGet.k (k := Sum.inr "channels") Yc.hpl, _, rfl, Ch, _, rfl, DPut.k (k := Sum.inr zs[i]) Yc.hCh (by unfold dI; rw [List.length_map]; exact small1000 (by omega)), ?_⟩
        rw [put_new _ _ _ hz]
        refine ⟨_, hs ++ [(zs[i], 1 + r1)], rfl, ?_, Yc.setCh, Dc.set ChD.1 ChD.2.1 ChD.2.2, (ub.trans uc).own newCh, ?_⟩
        · rw [List.take_add_one, List.getElem?_eq_getElem hi]
          exact hpt.snoc (by omega) (by omega)
        · rw [upd_ne pCh]
          exact uc _ _ hpb pD.1 pD.2.1
      · rintro σ Hb ⟨y2, hs, rfl, hpt, Yb, Db, ub, hpb⟩
        rw [List.length_map, List.take_length] at hpt
        exact ⟨_, rfl, q pl C L Ch W cs ls hs ws Hb ⟨SC, hpt.sz hzn nz (by omega), hls, nls, by omega, hws, wsl⟩ npl Db ub Yb⟩
end
end TP
namespace TP
open PySem PySem.Spec PyProof.Rows L2 HX HB HG HU HH HD HS HV HQ HK HN TL
/-! ### the parts of rows, as letters -/
def shp1 : List (Str × Str) := [("put", "nc"), ("read", "nx"), ("write", "xc"), ("tell", "c"), ("send", "vc"), ("take", "nv"), ("hold", "lb")]
def shp2 : List (Str × Str) := [("rest", "t"), ("nest", "sb"), ("within", "tsb"), ("start", "sb"), ("off", "s"), ("shield", "b"), ("fail", "n")]
def shp3 : List (Str × Str) := [("catch", "bnb"), ("try", "bb"), ("if", "cbb"), ("often", "tb")]
def shapes : List (Str × Str) := shp1 ++ shp2 ++ shp3
theorem shp12 : mergeK (dz shp1) (dz shp2) = dz (shp1 ++ shp2) := by rw [mergeZ_dz]; congr 1
theorem shp123 : mergeK (dz (shp1 ++ shp2)) (dz shp3) = dz shapes := by rw [mergeZ_dz]; congr 1
section
variable {P : Program} {w : World} {K : PySem.W.Frag} {mg : Str → Option Value} {base : Heap}
def spShape : Sp := fun vs H Q _ => ∃ (z s : Str), vs = [.str z] ∧ lookS shapes z = some s ∧ ∀ H', Same H H' → Q (.str s) H'
theorem ok_shape (T : Tp K w mg) : FnOk P w K mg base CX0 1 T.f_shape T.fd_shape ["_law_word"] spShape := by
  refine T.D_shape.F.ok sc_shape (fun vs H Q E h => ?_) (fun cdv A outer s H vs Q E hr h => ?_)
  · obtain ⟨z, s, rfl, _⟩ := h
    rfl
  · obtain ⟨z, s, rfl, hs, q⟩ := h
    have hu := hu_of hr
    refine ⟨_, (pss_cons (ps_set (i := 1) sc_shape.nd rfl (.inl rfl) (pe_disp (pps_cons pe_str pe_str (pps_cons pe_str pe_str (pps_cons pe_str pe_str (pps_cons pe_str pe_str (pps_cons pe_str pe_str (pps_cons pe_str pe_str (pps_cons pe_str pe_str pps_nil))))))) (by rfl) (by rfl) (fun z => by cases z) (by decide)))
  (pss_cons (ps_expr (pe_dupd (pv 1) (pe_disp (pps_cons pe_str pe_str (pps_cons pe_str pe_str (pps_cons pe_str pe_str (pps_cons pe_str pe_str (pps_cons pe_str pe_str (pps_cons pe_str pe_str (pps_cons pe_str pe_str pps_nil))))))) (by rfl) (by rfl) (fun z => by cases z) (by decide)) ⟨by rfl, by rfl, by rfl, by rfl⟩))
  (pss_cons (ps_expr (pe_dupd (pv 1) (pe_disp (pps_cons pe_str pe_str (pps_cons pe_str pe_str (pps_cons pe_str pe_str (pps_cons pe_str pe_str pps_nil)))) (by rfl) (by rfl) (fun z => by cases z) (by decide)) ⟨by rfl, by rfl, by rfl, by rfl⟩))
  (pss_one (ps_ret (pe_dget hu (pv 1) (pv 0) (fun _ _ => rfl))))))), ?_⟩
    refine fun p np => ?_
    refine ⟨upd_same, dz shp1, rfl, by show 7 ≤ 15; decide, ?_⟩
    have s1 : Same H (upd (upd H p (.dK [])) p (.dK (mergeK [] (dz shp1)))) := (same_upd np).own np
    have h1 : (upd (upd H p (.dK [])) p (.dK (mergeK [] (dz shp1)))) p = some (.dK (dz shp1)) := upd_same
    generalize upd (upd H p (.dK [])) p (.dK (mergeK [] (dz shp1))) = H1 at s1 h1 ⊢
    refine ⟨_, rfl, p, rfl, .inl ⟨_, .inl h1⟩, fun p2 np2 => ?_⟩
    refine ⟨upd_same, dz shp2, rfl, by show 7 ≤ 15; decide, ?_⟩
    have s2 : Same H1 (upd (upd H1 p2 (.dK [])) p2 (.dK (mergeK [] (dz shp2)))) := (same_upd np2).own np2
    have h2 : (upd (upd H1 p2 (.dK [])) p2 (.dK (mergeK [] (dz shp2)))) p2 = some (.dK (dz shp2)) := upd_same
    have ne : p ≠ p2 := ne_of_none h1 np2
    generalize upd (upd H1 p2 (.dK [])) p2 (.dK (mergeK [] (dz shp2))) = H2 at s2 h2 ⊢
    refine ⟨p2, _, _, rfl, ne, s2 _ _ h1, h2, by show 7 + 7 ≤ sizeLine; decide, ?_⟩
    rw [shp12]
    have s3 : Same H (upd H2 p (.dK (dz (shp1 ++ shp2)))) := (s1.trans s2).own np
    have h3 : (upd H2 p (.dK (dz (shp1 ++ shp2)))) p = some (.dK (dz (shp1 ++ shp2))) := upd_same
    generalize upd H2 p (.dK (dz (shp1 ++ shp2))) = H3 at s3 h3 ⊢
    refine ⟨_, rfl, p, rfl, .inl ⟨_, .inl h3⟩, fun p4 np4 => ?_⟩
    refine ⟨upd_same, dz shp3, rfl, by show 4 ≤ 15; decide, ?_⟩
    have s4 : Same H3 (upd (upd H3 p4 (.dK [])) p4 (.dK (mergeK [] (dz shp3)))) := (same_upd np4).own np4
    have h4 : (upd (upd H3 p4 (.dK [])) p4 (.dK (mergeK [] (dz shp3)))) p4 = some (.dK (dz shp3)) := upd_same
    have ne4 : p ≠ p4 := ne_of_none h3 np4
    generalize upd (upd H3 p4 (.dK [])) p4 (.dK (mergeK [] (dz shp3))) = H4 at s4 h4 ⊢
    refine ⟨p4, _, _, rfl, ne4, s4 _ _ h3, h4, by show 14 + 4 ≤ sizeLine; decide, ?_⟩
    rw [shp123]
    have s5 : Same H (upd H4 p (.dK (dz shapes))) := (s3.trans s4).own np
    have h5 : (upd H4 p (.dK (dz shapes))) p = some (.dK (dz shapes)) := upd_same
    generalize upd H4 p (.dK (dz shapes)) = H5 at s5 h5 ⊢
    have g := DGet.k (k := Sum.inr z) h5
    rw [lookS_val, hs] at g
    exact ⟨_, rfl, _, rfl, p, _, rfl, g, q _ s5⟩
end
end TP
namespace TP
open PySem PySem.Spec PyProof.Rows L2 HX HB HG HU HH HD HS HV HQ HK HN TL
/-! ### the nests and withins around -/
def pairD (p : Str × Str) : PyData := .tuple [.str p.1, .str p.2]
structure Al (K : PySem.W.Frag) (H : Hp) (a : Addr) (ps : List (Str × Str)) : Prop where
  ex : ∃ vs, H a = some (.lst vs) ∧ DpAll K H vs (ps.map pairD)
structure PsOk (ps : List (Str × Str)) : Prop where
  names : ∀ p ∈ ps, isNameL p.1 = true
  words : ∀ p ∈ ps, p.2 = "nest" ∨ p.2 = "within"
  nd : (ps.map (·.1)).Nodup
  few : ps.length ≤ 10
theorem tup_pairs : ∀ ps : List (Str × Str), tupAll (ps.map pairD) = true
  | [] => rfl
  | p :: ps => by simp only [List.map_cons, tupAll, pairD, tupD, tup_pairs ps, Bool.and_self]
theorem good_pair {p : Str × Str} (h : isNameL p.1 = true) (h2 : p.2 = "nest" ∨ p.2 = "within") : Good (pairD p) 1 := Good.tup (fun x hx => by
  rcases List.mem_cons.mp hx with rfl | hx
  · exact Good.str (Low.of h) _
  · rw [List.mem_singleton.mp hx]
    refine Good.str (str_lit ?_) _
    rcases h2 with e | e <;> rw [e] <;> decide +kernel) (by show 2 ≤ 10000; decide)
theorem Good.lst {xs : List PyData} {n : Nat} (h : ∀ x ∈ xs, Good x n) (l : xs.length ≤ 10000) : Good (.list xs) (n + 1) := by
  refine ⟨?_, layAll_of fun x hx => (h x hx).lay, ?_⟩
  · simp only [okD, Bool.and_eq_true, decide_eq_true_eq]
    exact ⟨l, okAll_of fun x hx => (h x hx).ok⟩
  · have := depAll_of fun x hx => (h x hx).dep
    show PyData.depthAll xs + 1 ≤ n + 1
    omega
theorem PsOk.shaped {ps : List (Str × Str)} (h : PsOk ps) : SeqAt.shaped (.list (ps.map pairD)) = true := (Good.lst (n := 1) (fun x hx => by
  obtain ⟨p, hp, rfl⟩ := List.mem_map.mp hx
  exact good_pair (h.names p hp) (h.words p hp)) (by rw [List.length_map]; have := h.few; omega)).shaped (by decide)
theorem dp_strs : ∀ {K : PySem.W.Frag} {H : Hp} (zs : List Str), DpAll K H (zs.map V.str) (zs.map .str)
  | _, _, [] => .nil
  | _, _, z :: zs => .cons (.str z) (dp_strs zs)
theorem strs_shaped {zs : List Str} (h : ∀ z ∈ zs, isNameL z = true) (l : zs.length ≤ 1000) : SeqAt.shaped (.list (zs.map .str)) = true := (Good.lst (n := 0) (fun x hx => by
  obtain ⟨z, hz, rfl⟩ := List.mem_map.mp hx
  exact Good.str (Low.of (h z hz)) _) (by rw [List.length_map]; omega)).shaped (by decide)
theorem PsOk.sub {ps qs : List (Str × Str)} (h : PsOk ps) (s : qs.Sublist ps) : PsOk qs :=
  ⟨fun p hp => h.names p (s.subset hp), fun p hp => h.words p (s.subset hp), List.Nodup.sublist (s.map _) h.nd, Nat.le_trans s.length_le h.few⟩
theorem dp_pair {K : PySem.W.Frag} {H : Hp} {v : V} {p : Str × Str} (h : Dp K H v (pairD p)) : ∃ t : Addr, v = .ref t ∧ SqT K H t [.str p.1, .str p.2] := by
  obtain ⟨a, xs, rfl, hx, hall⟩ := dp_tup h
  cases hall with
  | cons h1 t =>
    cases h1
    cases t with
    | cons h2 t => cases h2; cases t; exact ⟨a, rfl, hx⟩
theorem eqv_nil {α : Type} (f : α → PyData) (xs : List α) : PyData.eqv (.list (xs.map f)) (.list []) = decide (xs.length = 0) := by
  cases xs with
  | nil => rfl
  | cons x xs => rfl
/-! ### the words that may stand -/
def base11 : List Str := ["put", "tell", "rest", "nest", "within", "shield", "fail", "catch", "try", "if", "often"]
def pick (b : Bool) (zs : List Str) : List Str := if b = true then zs else []
def nests (ps : List (Str × Str)) : List (Str × Str) := ps.filter fun p => decide (p.2 = "nest")
def possW (nc nl nh np : Bool) (ps : List (Str × Str)) : List Str :=
  (((base11 ++ pick nc ["read", "write"]) ++ pick nl ["hold"]) ++ pick nh ["send", "take"]) ++ pick np ["off"] ++ pick (!decide ((nests ps).length = 0)) ["start", "start"]
theorem pick_len (b : Bool) (zs : List Str) : (pick b zs).length ≤ zs.length := by
  unfold pick
  split
  · exact Nat.le_refl _
  · exact Nat.zero_le _
theorem poss_len (nc nl nh np : Bool) (ps : List (Str × Str)) : (possW nc nl nh np ps).length ≤ 30 := by
  unfold possW
  simp only [List.length_append]
  have h1 := pick_len nc ["read", "write"]
  have h2 := pick_len nl ["hold"]
  have h3 := pick_len nh ["send", "take"]
  have h4 := pick_len np ["off"]
  have h5 := pick_len (!decide ((nests ps).length = 0)) ["start", "start"]
  have h6 : base11.length = 11 := rfl
  simp only [List.length_cons, List.length_nil] at h1 h2 h3 h4 h5
  omega
theorem rep_pick (b : Bool) (zs : List Str) : (List.replicate ((if b = true then 1 else 0 : Int)).toNat (zs.map V.str)).flatten = (pick b zs).map V.str := by
  cases b with
  | true => show (List.replicate 1 _).flatten = _; simp [pick]
  | false => rfl
section
variable {P : Program} {w : World} {K : PySem.W.Frag} {mg : Str → Option Value} {base : Heap}
theorem rep_rd {H : Hp} {Q : VK} {l : Addr} {b : Bool} {zs : List Str} (h : H l = some (.lst (zs.map V.str))) (hz : zs.length ≤ 10) (q : ∀ p H', Same H H' → H' p = some (.lst ((pick b zs).map V.str)) → Q (.ref p) H') : rRep (.ref l) (.int (if b = true then 1 else 0)) H Q := by
  refine ⟨l, _, _, rfl, rfl, h, ?_, ?_, ?_, fun p np => ?_⟩
  · cases b <;> decide
  · cases b <;> decide
  · rw [List.length_map]
    have : (if b = true then 1 else 0 : Int).toNat ≤ 1 := by cases b <;> decide
    exact Nat.le_trans (Nat.mul_le_mul hz this) (by decide)
  · rw [rep_pick]
    exact q p _ (same_upd np) upd_same
theorem cat_rd {H : Hp} {Q : VK} {a b : Addr} {xs ys : List Str} (ha : H a = some (.lst (xs.map V.str))) (hb : H b = some (.lst (ys.map V.str))) (l : xs.length + ys.length ≤ 1000) (q : ∀ p H', H p = none → Same H H' → H' p = some (.lst ((xs ++ ys).map V.str)) → Q (.ref p) H') : rCat (.ref a) (.ref b) H Q := by
  refine ⟨a, b, _, _, rfl, rfl, ha, hb, by rw [List.length_map, List.length_map]; exact Nat.le_of_lt (small1000 l), fun p np => ?_⟩
  have e : xs.map V.str ++ ys.map V.str = (xs ++ ys).map V.str := by rw [List.map_append]
  rw [e]
  exact q p _ np (same_upd np) upd_same
theorem ne_empty {H : Hp} {Q : VK} {C e : Addr} {cs : List (Str × Int)} (hC : H C = some (.dK (dI cs))) (he : H e = some (.dK [])) (q : Q (.bl (!decide (cs.length = 0))) H) : rDB false (.ref C) (.ref e) H Q := by
  refine ⟨C, e, dI cs, [], rfl, rfl, hC, he, ?_⟩
  cases cs with
  | nil => exact .inl ⟨rfl, (fun p hp => by cases hp), q⟩
  | cons x cs => exact .inr ⟨by unfold dI; simp, q⟩
theorem neD_empty {H : Hp} {Q : VK} {a e : Addr} {α : Type} {xs : List α} {f : α → PyData} {vs : List V} (ha : H a = some (.lst vs)) (hv : DpAll K H vs (xs.map f)) (hs : SeqAt.shaped (.list (xs.map f)) = true) (he : H e = some (.lst [])) (q : Q (.bl (!decide (xs.length = 0))) H) : rNeD K (.ref a) (.ref e) H Q := by
  refine ⟨.list (xs.map f), .list [], .lst (sl ha) hv, .lst (sl he) .nil, hs, rfl, ?_⟩
  rw [eqv_nil]
  exact q
def spPoss (K : PySem.W.Frag) : Sp := fun vs H Q _ => ∃ (d g c pl C L Ch W a : Addr) (cs : List (Str × Int)) (ls : List Str) (hs : List (Str × Int)) (ws : List Str) (k : Nat) (ps : List (Str × Str)), vs = [.ref pl, .ref a] ∧ Play H d g c pl C L Ch W cs ls hs ws k ∧ Nm cs ls hs ws ∧ Al K H a ps ∧ PsOk ps ∧
  ∀ p H', Same H H' → H' p = some (.lst ((possW (!decide (cs.length = 0)) (!decide (ls.length = 0)) (!decide (hs.length = 0)) (!decide (ps.length = 0)) ps).map V.str)) → H p = none → Q (.ref p) H'
theorem ok_possible (T : Tp K w mg) : FnOk P w K mg base CX0 1 T.f_possible T.fd_possible ["_law_play", "_law_around"] (spPoss K) := by
  refine T.D_possible.F.ok sc_possible (fun vs H Q E h => ?_) (fun cdv A outer s H vs Q E hr h => ?_)
  · obtain ⟨d, g, c, pl, C, L, Ch, W, a, cs, ls, hs, ws, k, ps, rfl, _⟩ := h
    rfl
  · obtain ⟨d, g, c, pl, C, L, Ch, W, a, cs, ls, hs, ws, k, ps, rfl, Y, N, ha, hps, q⟩ := h
    have hu := hu_of hr
    refine ⟨_, (pss_cons (ps_set (i := 2) sc_possible.nd rfl (.inl rfl) (pe_lst (pa_cons pe_str (pa_cons pe_str (pa_cons pe_str (pa_cons pe_str (pa_cons pe_str (pa_cons pe_str (pa_cons pe_str (pa_cons pe_str (pa_cons pe_str (pa_cons pe_str (pa_cons pe_str pa_nil)))))))))))))
  (pss_cons (ps_set (i := 2) sc_possible.nd rfl (.inl rfl) (pe_op op_cat (pe_op op_cat (pv 2) (pe_op op_rep (pe_lst (pa_cons pe_str (pa_cons pe_str pa_nil))) (pe_callTy call_int1 (by rfl) T.int (by decide +kernel) (pa_cons (pe_cmpR (HN.op_ne_dictB hr.units0) (pe_dget hu (pv 0) pe_str (fun _ _ => rfl)) pe_dnewK (nomark _)) pa_nil)))) (pe_op op_rep (pe_lst (pa_cons pe_str pa_nil)) (pe_callTy call_int1 (by rfl) T.int (by decide +kernel) (pa_cons (pe_cmpR (op_neD hr.units) (pe_dget hu (pv 0) pe_str (fun _ _ => rfl)) (pe_lst pa_nil) (nomark _)) pa_nil)))))
  (pss_cons (ps_set (i := 2) sc_possible.nd rfl (.inl rfl) (pe_op op_cat (pe_op op_cat (pv 2) (pe_op op_rep (pe_lst (pa_cons pe_str (pa_cons pe_str pa_nil))) (pe_callTy call_int1 (by rfl) T.int (by decide +kernel) (pa_cons (pe_cmpR (HN.op_ne_dictB hr.units0) (pe_dget hu (pv 0) pe_str (fun _ _ => rfl)) pe_dnewK (nomark _)) pa_nil)))) (pe_op op_rep (pe_lst (pa_cons pe_str pa_nil)) (pe_callTy call_int1 (by rfl) T.int (by decide +kernel) (pa_cons (pe_cmpR (op_neD hr.units) (pv 1) (pe_lst pa_nil) (nomark _)) pa_nil)))))
  (pss_one (ps_ret (pe_op op_cat (pv 2) (pe_op op_rep (pe_lst (pa_cons pe_str (pa_cons pe_str pa_nil))) (pe_callTy call_int1 (by rfl) T.int (by decide +kernel) (pa_cons (pe_cmpR (op_neD hr.units) (pe_lc (own := [("_law_pair", 3)]) (g := gName 3) (by rfl) sc_possible.nd (pi_list (pv 1)) (blkOk_by (own := [("_law_pair", 3)]) (N := ["_law_play", "_law_around", "_law_some", "_law_pair"]) (sc := defScope s_possible) (by decide +kernel)) (fun _ _ _ _ _ => (pg_name (i := 3) sc_possible.nd rfl (.inl rfl))) (fun _ _ _ _ _ => (pts_one (pt_cmpR op_eq (pe_ix (show IxR _ (rIxT K) from ix_tup) (pv 3) pe_int (fun _ _ => rfl)) pe_str (nomark _)))) (fun _ _ _ _ _ => (pv 3))) (pe_lst pa_nil) (nomark _)) pa_nil))))))))), ?_⟩
    refine ⟨by show 11 ≤ sizeLine; decide, fun s0 n0 => ?_⟩
    have t0 := same_upd (o := .lst (base11.map V.str)) n0
    have h0 : (upd H s0 (.lst (base11.map V.str))) s0 = some (.lst (base11.map V.str)) := upd_same
    show tSeq _ _ _ _ (upd H s0 (.lst (base11.map V.str)))
    generalize upd H s0 (.lst (base11.map V.str)) = H1 at t0 h0 ⊢
    -- read, write
    refine ⟨_, rfl, by show 2 ≤ sizeLine; decide, fun s1 n1 => ?_⟩
    have t1 := t0.trans (same_upd (o := .lst ((["read", "write"] : List Str).map V.str)) n1)
    have h0 := same_upd (o := .lst ((["read", "write"] : List Str).map V.str)) n1 _ _ h0
    have h1 : (upd H1 s1 (.lst ((["read", "write"] : List Str).map V.str))) s1 = some (.lst ((["read", "write"] : List Str).map V.str)) := upd_same
    show tDGet _ _ _ (upd H1 s1 (.lst ((["read", "write"] : List Str).map V.str))) _
    generalize upd H1 s1 (.lst ((["read", "write"] : List Str).map V.str)) = H2 at t1 h0 h1 ⊢
    have Y2 := Y.same t1
    refine ⟨_, rfl, pl, _, rfl, DGet.k (k := Sum.inr "cells") Y2.hpl, fun e ne => ?_⟩
    have te := same_upd (o := .dK []) ne
    have he : (upd H2 e (.dK [])) e = some (.dK []) := upd_same
    have h0 := te _ _ h0
    have h1 := te _ _ h1
    have t2 := t1.trans te
    generalize upd H2 e (.dK []) = H3 at te he h0 h1 t2 ⊢
    refine ne_empty (Y.same t2).hC he (.inr ⟨_, rfl, ?_⟩)
    refine rep_rd h1 (by decide) fun p3 H4 t3 h3 => ?_
    refine cat_rd (t3 _ _ h0) h3 (by have := pick_len (!decide (cs.length = 0)) ["read", "write"]; simp only [List.length_cons, List.length_nil] at this; show 11 + _ ≤ 1000; omega) fun p4 H5 n4 t4 h4 => ?_
    have t5 := t2.trans (t3.trans t4)
    clear h0 h1 h3 t3 t4 t2 t1 te he
    -- hold
    refine ⟨by show 1 ≤ sizeLine; decide, fun s1 n1 => ?_⟩
    have t6 := t5.trans (same_upd (o := .lst ((["hold"] : List Str).map V.str)) n1)
    have h4 := same_upd (o := .lst ((["hold"] : List Str).map V.str)) n1 _ _ h4
    have h1 : (upd H5 s1 (.lst ((["hold"] : List Str).map V.str))) s1 = some (.lst ((["hold"] : List Str).map V.str)) := upd_same
    show tDGet _ _ _ (upd H5 s1 (.lst ((["hold"] : List Str).map V.str))) _
    generalize upd H5 s1 (.lst ((["hold"] : List Str).map V.str)) = H6 at t6 h4 h1 ⊢
    have Y6 := Y.same t6
    refine ⟨_, rfl, pl, _, rfl, DGet.k (k := Sum.inr "locks") Y6.hpl, by show 0 ≤ sizeLine; decide, fun e ne => ?_⟩
    have te := same_upd (o := .lst []) ne
    have he : (upd H6 e (.lst [])) e = some (.lst []) := upd_same
    have h4 := te _ _ h4
    have h1 := te _ _ h1
    have t7 := t6.trans te
    generalize upd H6 e (.lst []) = H7 at te he h4 h1 t7 ⊢
    refine neD_empty (Y.same t7).hL (dp_strs ls) (strs_shaped N.locks (by have := N.lfew; omega)) he (.inr ⟨_, rfl, ?_⟩)
    refine rep_rd h1 (by decide) fun p8 H8 t8 h8 => ?_
    have l5 := poss_len (!decide (cs.length = 0)) (!decide (ls.length = 0)) (!decide (hs.length = 0)) (!decide (ps.length = 0)) ps
    unfold possW at l5
    simp only [List.length_append] at l5
    refine cat_rd (t8 _ _ h4) h8 (by rw [List.length_append]; omega) fun p9 H9 n9 t9 h9 => nm_ ?_
    have tA := t7.trans (t8.trans t9)
    clear h4 h1 h8 t8 t9 t7 t6 te he
    -- send, take
    refine ⟨_, rfl, by show 2 ≤ sizeLine; decide, fun s1 n1 => ?_⟩
    have t1 := tA.trans (same_upd (o := .lst ((["send", "take"] : List Str).map V.str)) n1)
    have h9 := same_upd (o := .lst ((["send", "take"] : List Str).map V.str)) n1 _ _ h9
    have h1 : (upd H9 s1 (.lst ((["send", "take"] : List Str).map V.str))) s1 = some (.lst ((["send", "take"] : List Str).map V.str)) := upd_same
    show tDGet _ _ _ (upd H9 s1 (.lst ((["send", "take"] : List Str).map V.str))) _
    generalize upd H9 s1 (.lst ((["send", "take"] : List Str).map V.str)) = HB at t1 h9 h1 ⊢
    refine ⟨_, rfl, pl, _, rfl, DGet.k (k := Sum.inr "channels") (Y.same t1).hpl, fun e ne => ?_⟩
    have te := same_upd (o := .dK []) ne
    have he : (upd HB e (.dK [])) e = some (.dK []) := upd_same
    have h9 := te _ _ h9
    have h1 := te _ _ h1
    have t2 := t1.trans te
    generalize upd HB e (.dK []) = HC at te he h9 h1 t2 ⊢
    refine ne_empty (Y.same t2).hCh he (.inr ⟨_, rfl, ?_⟩)
    refine rep_rd h1 (by decide) fun p3 HD t3 h3 => ?_
    refine cat_rd (t3 _ _ h9) h3 (by simp only [List.length_append]; omega) fun p4 HE n4 t4 h4 => ?_
    have t5 := t2.trans (t3.trans t4)
    clear h9 h1 h3 t3 t4 t2 t1 te he
    -- off
    refine ⟨by show 1 ≤ sizeLine; decide, fun s1 n1 => ?_⟩
    have t6 := t5.trans (same_upd (o := .lst ((["off"] : List Str).map V.str)) n1)
    have h4 := same_upd (o := .lst ((["off"] : List Str).map V.str)) n1 _ _ h4
    have h1 : (upd HE s1 (.lst ((["off"] : List Str).map V.str))) s1 = some (.lst ((["off"] : List Str).map V.str)) := upd_same
    refine ⟨_, rfl, by show 0 ≤ sizeLine; decide, fun e ne => ?_⟩
    have ne' : (upd HE s1 (.lst ((["off"] : List Str).map V.str))) e = none := ne
    have t7 := t6.trans (same_upd (o := .lst []) ne')
    have h4 := same_upd (o := .lst []) ne' _ _ h4
    have h1 := same_upd (o := .lst []) ne' _ _ h1
    have he : (upd (upd HE s1 (.lst ((["off"] : List Str).map V.str))) e (.lst [])) e = some (.lst []) := upd_same
    show rNeD _ _ _ (upd (upd HE s1 (.lst ((["off"] : List Str).map V.str))) e (.lst [])) _
    generalize upd (upd HE s1 (.lst ((["off"] : List Str).map V.str))) e (.lst []) = HG at t7 h4 h1 he ⊢
    obtain ⟨vs, hav, hps'⟩ := ha.ex
    refine neD_empty (t7 _ _ hav) (t7.dpAll hps') hps.shaped he (.inr ⟨_, rfl, ?_⟩)
    refine rep_rd h1 (by decide) fun p8 HI t8 h8 => ?_
    refine cat_rd (t8 _ _ h4) h8 (by simp only [List.length_append]; omega) fun p9 HJ n9 t9 h9 => nm_ ?_
    have tA := t7.trans (t8.trans t9)
    clear h4 h1 h8 t8 t9 t7 t6 he t5
    -- start
    refine ⟨_, rfl, by show 2 ≤ sizeLine; decide, fun s1 n1 => ?_⟩
    have t1 := tA.trans (same_upd (o := .lst ((["start", "start"] : List Str).map V.str)) n1)
    have h9 := same_upd (o := .lst ((["start", "start"] : List Str).map V.str)) n1 _ _ h9
    have h1 : (upd HJ s1 (.lst ((["start", "start"] : List Str).map V.str))) s1 = some (.lst ((["start", "start"] : List Str).map V.str)) := upd_same
    refine ⟨_, rfl, a, rfl, ⟨_, sl (t1 _ _ hav)⟩, fun R nR => ?_⟩
    have nR' : (upd HJ s1 (.lst ((["start", "start"] : List Str).map V.str))) R = none := nR
    show ∃ W : Nat → Nat → Hp → Prop, (∃ m, W 0 m (upd (upd HJ s1 (.lst ((["start", "start"] : List Str).map V.str))) R (.lst []))) ∧ _
    generalize upd HJ s1 (.lst ((["start", "start"] : List Str).map V.str)) = HK' at t1 h9 h1 nR' ⊢
    refine lc_it (walk_list (xs := vs)) (fun i H6 => Same HK' H6 ∧ ∃ us, H6 R = some (.lst us) ∧ us.length ≤ i ∧ DpAll K H6 us ((nests (ps.take i)).map pairD)) ⟨same_upd nR', [], upd_same, Nat.le_refl _, .nil⟩ (fun i H6 _ g => sl (g.1 _ _ (t1 _ _ hav))) ?_ ?_
    · rintro i x H5 H6 hi ⟨sm, us, hR, ul, hus⟩ ⟨rfl, g1⟩
      have hl := dpAll_len hps'
      rw [List.length_map] at hl
      have hip : i < ps.length := by omega
      obtain ⟨v, ev, hv⟩ := dp_at hps' (i := i) (d := pairD ps[i]) (by rw [List.getElem?_map, List.getElem?_eq_getElem hip]; rfl)
      rw [ev] at g1
      cases g1
      have hv := (t1.trans sm).dp hv
      obtain ⟨t, e, ht⟩ := dp_pair hv
      subst e
      have e1 : nests (ps.take (i + 1)) = nests (ps.take i) ++ (if ps[i].2 = "nest" then [ps[i]] else []) := by
        unfold nests
        rw [List.take_add_one, List.getElem?_eq_getElem hip, List.filter_append]
        congr 1
        by_cases h : ps[i].2 = "nest"
        · rw [if_pos h]; simp [h]
        · rw [if_neg h]; simp [h]
      refine ⟨rfl, _, rfl, _, _, _, _, rfl, rfl, ht, atI_nat (j := 1) rfl, rfl, _, rfl, ?_⟩
      refine ite2 (fun hn => ?_) (fun hn => ?_)
      · have hn : ps[i].2 = "nest" := V.str.inj (of_decide_eq_true hn)
        refine ⟨_, rfl, _, hR, small1000 (by have := hps.few; omega), sm.own nR', us ++ [.ref t], upd_same, by rw [List.length_append]; show us.length + 1 ≤ i + 1; omega, ?_⟩
        rw [e1, if_pos hn, List.map_append]
        exact dpAll_keep (fun _ _ h => sqt_setl hR h) (tupAll_app (tup_pairs _) (tup_pairs _)) (dpAll_app hus (.cons hv .nil))
      · have hn : ps[i].2 ≠ "nest" := fun e => hn (decide_eq_true (by rw [e]))
        refine ⟨sm, us, hR, by omega, ?_⟩
        rw [e1, if_neg hn, List.append_nil]
        exact hus
    · rintro H6 ⟨sm, us, hR, ul, hus⟩
      have hl := dpAll_len hps'
      rw [List.length_map] at hl
      rw [hl, List.take_length] at hus
      refine ⟨by show 0 ≤ sizeLine; decide, fun e ne => ?_⟩
      have te := same_upd (o := .lst []) ne
      have he : (upd H6 e (.lst [])) e = some (.lst []) := upd_same
      have hR := te _ _ hR
      have hus := te.dpAll hus
      have h1 := te _ _ (sm _ _ h1)
      have h9 := te _ _ (sm _ _ h9)
      have t2 := (t1.trans sm).trans te
      generalize upd H6 e (.lst []) = H7 at te he hR hus h1 h9 t2 ⊢
      refine neD_empty hR hus (hps.sub List.filter_sublist).shaped he (.inr ⟨_, rfl, ?_⟩)
      refine rep_rd h1 (by decide) fun p3 H8 t3 h3 => ?_
      refine cat_rd (t3 _ _ h9) h3 (by simp only [List.length_append]; omega) fun p4 HE n4 t4 h4 => ?_
      exact q p4 HE (t2.trans (t3.trans t4)) h4 ((t2.trans t3).free n4)
end
end TP
namespace TP
open PySem PySem.Spec PyProof.Rows L2 HX HB HG HU HH HD HS HV HQ HK HN TL
/-! ### right rows, as they are drawn -/
structure Rows (cn ls hn : List Str) (ps : List (Str × Str)) (deep : Nat) (oft : Int) (rows : List PyData) (k : Nat) : Prop where
  right : ∀ (n : Nat) (place : List Int), 10 ≤ n + deep → place.length = 2 * deep → wrongD cn ls hn (n + 1) rows place ps oft = none
  cnt : ∀ n : Nat, 10 ≤ n + deep → cntD (n + 1) rows = k
  good : ∀ r ∈ rows, Good r (2 * (10 - deep) + 1)
  tup : tupAll rows = true
  wt : wtAll rows ≤ 410 * k
structure Row1 (cn ls hn : List Str) (ps : List (Str × Str)) (deep : Nat) (oft : Int) (row : PyData) (k : Nat) : Prop where
  right : ∀ (n : Nat) (place : List Int) (i : Nat), 10 ≤ n + deep → place.length = 2 * deep → rowF cn ls hn n place ps oft i row = none
  cnt : ∀ n : Nat, 10 ≤ n + deep → 1 + ((bodiesD row).map fun b => cntD n (rowsD b)).sum = k
  good : Good row (2 * (10 - deep) + 1)
  tup : tupD row = true
  wt : wtD row ≤ 410 * k
section
variable {cn ls hn : List Str} {ps : List (Str × Str)} {deep : Nat} {oft : Int} {rows : List PyData} {row : PyData} {k m : Nat}
theorem Rows.nil : Rows cn ls hn ps deep oft [] 0 := ⟨fun n place _ _ => wrong_nil .., fun n _ => cnt_nil _, (fun _ h => by cases h), rfl, Nat.zero_le _⟩
theorem firstSome_app {α β : Type} {f : Nat → α → Option β} {xs ys : List α} {i : Nat} (h : firstSome f i xs = none) : firstSome f i (xs ++ ys) = firstSome f (i + xs.length) ys := by
  induction xs generalizing i with
  | nil => rfl
  | cons x xs ih =>
    simp only [firstSome, List.cons_append] at h ⊢
    cases e : f i x with
    | some b => rw [e] at h; cases h
    | none =>
      rw [e] at h
      dsimp only at h ⊢
      rw [ih h, List.length_cons]
      congr 1
      omega
theorem Rows.app {rows2 : List PyData} (h : Rows cn ls hn ps deep oft rows k) (h2 : ∀ (i n : Nat) (place : List Int), 10 ≤ n + deep → place.length = 2 * deep → firstSome (rowF cn ls hn n place ps oft) i rows2 = none) (c2 : ∀ n : Nat, 10 ≤ n + deep → cntD (n + 1) rows2 = m) (g2 : ∀ r ∈ rows2, Good r (2 * (10 - deep) + 1)) (t2 : tupAll rows2 = true) (w2 : wtAll rows2 ≤ 410 * m) :
    Rows cn ls hn ps deep oft (rows ++ rows2) (k + m) := by
  refine ⟨fun n place hn hp => ?_, fun n hn => by rw [cnt_app, h.cnt n hn, c2 n hn], fun r hr => ?_, tupAll_app h.tup t2, by rw [wt_app]; have := h.wt; omega⟩
  · have h1 := h.right n place hn hp
    rw [wrong_succ] at h1 ⊢
    rw [firstSome_app h1]
    exact h2 _ n place hn hp
  · rcases List.mem_append.mp hr with hr | hr
    · exact h.good r hr
    · exact g2 r hr
theorem Rows.snoc (h : Rows cn ls hn ps deep oft rows k) (r : Row1 cn ls hn ps deep oft row m) : Rows cn ls hn ps deep oft (rows ++ [row]) (k + m) := by
  refine h.app (fun i n place hn hp => ?_) (fun n hn => ?_) (fun x hx => by rw [List.mem_singleton.mp hx]; exact r.good) (by simp only [tupAll, r.tup, Bool.and_self]) (by show wtD row + 0 ≤ 410 * m; have := r.wt; omega)
  · simp only [firstSome]
    rw [r.right n place i hn hp]
  · have := r.cnt n hn
    simp only [cntD, List.map_cons, List.map_nil, List.sum_cons, List.sum_nil, Nat.add_zero]
    exact this
theorem firstSome_shift {cn ls hn : List Str} {n : Nat} {place : List Int} {ps : List (Str × Str)} {oft : Int} : ∀ {rows : List PyData} {i j : Nat}, firstSome (rowF cn ls hn n place ps oft) i rows = none → (∀ (a b : Nat) r, rowF cn ls hn n place ps oft a r = none → rowF cn ls hn n place ps oft b r = none) → firstSome (rowF cn ls hn n place ps oft) j rows = none
  | [], _, _, _, _ => rfl
  | r :: rows, i, j, h, hs => by
    simp only [firstSome] at h ⊢
    cases e : rowF cn ls hn n place ps oft i r with
    | some b => rw [e] at h; cases h
    | none =>
      rw [e] at h
      rw [hs i j r e]
      exact firstSome_shift h hs
theorem Rows.good1 (h : Rows cn ls hn ps deep oft rows k) (l : rows.length ≤ 10000) : Good (.tuple rows) (2 * (10 - deep) + 2) := Good.tup h.good l
/-! ### a row's parts -/
structure PartOk (cn ls hn : List Str) (ps ps' : List (Str × Str)) (deep : Nat) (more : Int) (nm kind : Str) (d : PyData) (k : Nat) : Prop where
  part : isPartD cn ls hn ps kind d = true
  good : Good d (2 * (9 - deep) + 2)
  tup : tupD d = true
  body : kind = "body" → ∃ rows, d = .tuple rows ∧ Rows cn ls hn ps' (deep + 1) more rows k
  none_ : kind ≠ "body" → k = 0
  txt : kind = "scope" ∨ kind = "home" ∨ kind = "entered" → d = .str nm
  wt : wtD d ≤ 130 + 410 * k
inductive Parts (cn ls hn : List Str) (ps ps' : List (Str × Str)) (deep : Nat) (more : Int) (nm : Str) : List Str → List PyData → Nat → Prop
  | nil : Parts cn ls hn ps ps' deep more nm [] [] 0
  | snoc {ks : List Str} {ds : List PyData} {k m : Nat} {kind : Str} {d : PyData} (h : Parts cn ls hn ps ps' deep more nm ks ds k) (p : PartOk cn ls hn ps ps' deep more nm kind d m) : Parts cn ls hn ps ps' deep more nm (ks ++ [kind]) (ds ++ [d]) (k + m)
variable {ps' : List (Str × Str)} {more : Int} {nm z : Str} {ks : List Str} {ds : List PyData}
theorem Parts.len (h : Parts cn ls hn ps ps' deep more nm ks ds k) : ks.length = ds.length := by
  induction h with
  | nil => rfl
  | snoc h p ih => rw [List.length_append, List.length_append, ih]; rfl
theorem zip_snoc {α β : Type} : ∀ {xs : List α} {ys : List β} {a : α} {b : β}, xs.length = ys.length → (xs ++ [a]).zip (ys ++ [b]) = xs.zip ys ++ [(a, b)]
  | [], [], _, _, _ => rfl
  | x :: xs, y :: ys, a, b, h => by
    rw [List.cons_append, List.cons_append, List.zip_cons_cons, zip_snoc (Nat.succ.inj h)]
    rfl
theorem Parts.each (h : Parts cn ls hn ps ps' deep more nm ks ds k) : ∀ q ∈ ks.zip ds, isPartD cn ls hn ps q.1 q.2 = true ∧ Good q.2 (2 * (9 - deep) + 2) ∧ tupD q.2 = true ∧ (q.1 = "scope" ∨ q.1 = "home" ∨ q.1 = "entered" → q.2 = .str nm) := by
  induction h with
  | nil => intro q hq; cases hq
  | snoc h p ih =>
    intro q hq
    rw [zip_snoc h.len] at hq
    rcases List.mem_append.mp hq with hq | hq
    · exact ih q hq
    · rw [List.mem_singleton.mp hq]
      exact ⟨p.part, p.good, p.tup, p.txt⟩
theorem Parts.bods (h : Parts cn ls hn ps ps' deep more nm ks ds k) : (∀ b ∈ bodiesV ks ds, ∃ rows m, b = .tuple rows ∧ Rows cn ls hn ps' (deep + 1) more rows m) ∧ ∀ n : Nat, 10 ≤ n + (deep + 1) → ((bodiesV ks ds).map fun b => cntD (n + 1) (rowsD b)).sum = k := by
  induction h with
  | nil => exact ⟨(fun b hb => by cases hb), fun n _ => rfl⟩
  | @snoc ks ds k m kind d h p ih =>
    rw [bodiesV_snoc _ _ _ _ h.len]
    by_cases hk : kind = "body"
    · obtain ⟨rows, rfl, hr⟩ := p.body hk
      rw [if_pos hk]
      refine ⟨fun b hb => ?_, fun n hn => ?_⟩
      · rcases List.mem_append.mp hb with hb | hb
        · exact ih.1 b hb
        · rw [List.mem_singleton.mp hb]; exact ⟨rows, m, rfl, hr⟩
      · rw [List.map_append, List.sum_append, ih.2 n hn]
        show k + (cntD (n + 1) rows + 0) = k + m
        rw [hr.cnt n hn]
        rfl
    · rw [if_neg hk, List.append_nil, p.none_ hk]
      exact ih
theorem Parts.wt (h : Parts cn ls hn ps ps' deep more nm ks ds k) : wtAll ds ≤ 130 * ds.length + 410 * k := by
  induction h with
  | nil => exact Nat.zero_le _
  | @snoc ks ds k m kind d h p ih =>
    rw [wt_app, List.length_append]
    have := p.wt
    show wtAll ds + (wtD d + 0) ≤ 130 * (ds.length + 1) + 410 * (k + m)
    omega
theorem zip_fst_mem {α β : Type} : ∀ {xs : List α} {ys : List β}, xs.length = ys.length → ∀ y ∈ ys, ∃ x, (x, y) ∈ xs.zip ys
  | [], [], _, y, h => by cases h
  | x :: xs, b :: ys, h, y, hy => by
    rcases List.mem_cons.mp hy with rfl | hy
    · exact ⟨x, List.mem_cons_self ..⟩
    · obtain ⟨u, hu⟩ := zip_fst_mem (Nat.succ.inj h) y hy
      exact ⟨u, List.mem_cons_of_mem _ hu⟩
/-- the row is whole -/
theorem row_done (hk : kindsOf z = some ks) (hz : Low z) (hz6 : z.length ≤ 6) (h : Parts cn ls hn ps ps' deep more nm ks ds k) (ha : arD (.tuple (.str z :: ds)) ps = ps') (ho : oft + oftD (.tuple (.str z :: ds)) = more) (hm : more ≤ 3) (hd : deep ≤ 9) : Row1 cn ls hn ps deep oft (.tuple (.str z :: ds)) (1 + k) := by
  have hl := h.len
  have l3 := kinds_len hk
  have eb : bodiesD (.tuple (.str z :: ds)) = bodiesV ks ds := by simp only [bodiesD, hk]
  have row : isRowD cn ls hn ps (.tuple (.str z :: ds)) = true := by
    simp only [isRowD, hk]
    rw [decide_eq_true hl.symm, Bool.true_and, List.all_eq_true]
    exact fun q hq => (h.each q hq).1
  refine ⟨fun n place i hn hp => ?_, fun n hn => ?_, ?_, ?_, ?_⟩
  · refine rowF_none' (by omega) row (by rw [ho]; exact hm) fun j b e => ?_
    rw [eb] at e
    obtain ⟨rows, m, rfl, hr⟩ := h.bods.1 b (List.mem_of_getElem? e)
    rw [ha, ho]
    obtain ⟨n', rfl⟩ : ∃ n', n = n' + 1 := ⟨n - 1, by omega⟩
    exact hr.right n' _ (by omega) (by simp; omega)
  · rw [eb]
    obtain ⟨n', rfl⟩ : ∃ n', n = n' + 1 := ⟨n - 1, by omega⟩
    rw [h.bods.2 n' (by omega)]
  · refine (Good.tup (n := 2 * (9 - deep) + 2) (fun x hx => ?_) (by rw [List.length_cons]; omega)).mono (by omega)
    rcases List.mem_cons.mp hx with rfl | hx
    · exact Good.str hz _
    · obtain ⟨u, hu⟩ := zip_fst_mem hl x hx
      exact (h.each _ hu).2.1
  · have : ∀ xs : List PyData, (∀ x ∈ xs, tupD x = true) → tupAll xs = true := fun xs => by
      induction xs with
      | nil => intro _; rfl
      | cons x xs ih =>
        intro hx
        simp only [tupAll, Bool.and_eq_true]
        exact ⟨hx x (List.mem_cons_self ..), ih fun y hy => hx y (List.mem_cons_of_mem _ hy)⟩
    show (tupD (.str z) && tupAll ds) = true
    rw [this ds fun x hx => (h.each _ (zip_fst_mem hl x hx).choose_spec).2.2.1]
    rfl
  · have := h.wt
    show 4 + (z.length + 4 + wtAll ds) ≤ 410 * (1 + k)
    omega
end
/-! ### letters and kinds -/
def kindL (z : Str) (c : Nat) : Str :=
  if c = 110 then "name" else if c = 99 then "calc" else if c = 120 then "cell" else if c = 108 then "lock" else if c = 118 then "channel" else if c = 98 then "body"
  else if c = 115 then (if z = "start" then "home" else if z = "off" then "entered" else "scope") else (if z = "rest" then "rest" else if z = "within" then "span" else "times")
theorem shape_kinds : ∀ q ∈ partsL, ((lookS shapes q.1).map fun s => s.cps.toList.map (kindL q.1)) = some q.2 := by decide +kernel
theorem shape_of {z : Str} {ks : List Str} (h : kindsOf z = some ks) : ∃ s, lookS shapes z = some s ∧ s.cps.toList.map (kindL z) = ks := by
  have := shape_kinds _ (kindsOf_mem h)
  cases e : lookS shapes z with
  | none => rw [e] at this; cases this
  | some s => rw [e] at this; exact ⟨s, rfl, Option.some.inj this⟩
theorem shape_lets : ∀ q ∈ shapes, q.2.cps.toList.all (fun c => decide (c ∈ [110, 99, 120, 108, 118, 98, 115, 116])) = true ∧ q.2.length ≤ 3 := by decide +kernel
/-! ### which words may stand -/
theorem poss_mem {nc nl nh np : Bool} {ps : List (Str × Str)} {z : Str} (h : z ∈ possW nc nl nh np ps) : (∃ ks, kindsOf z = some ks) ∧ Low z ∧ (z = "read" ∨ z = "write" → nc = true) ∧ (z = "hold" → nl = true) ∧ (z = "send" ∨ z = "take" → nh = true) ∧ (z = "off" → np = true) ∧ (z = "start" → nests ps ≠ []) := by
  unfold possW at h
  simp only [List.mem_append] at h
  have pk : ∀ {b : Bool} {zs : List Str}, z ∈ pick b zs → b = true ∧ z ∈ zs := fun {b zs} h => by
    unfold pick at h
    cases b with
    | true => exact ⟨rfl, h⟩
    | false => cases h
  have all : ∀ y ∈ partsL.map (·.1), (∃ ks, kindsOf y = some ks) ∧ Low y := fun y hy => by
    obtain ⟨q, hq, rfl⟩ := List.mem_map.mp hy
    have h1 : ∀ q ∈ partsL, (kindsOf q.1).isSome = true ∧ (decide (q.1.length ≤ 20) && q.1.cps.toList.all isLow) = true := by decide +kernel
    obtain ⟨a, b⟩ := h1 q hq
    exact ⟨Option.isSome_iff_exists.mp a, str_lit b⟩
  rcases h with ((((h | h) | h) | h) | h) | h
  · have m : ∀ y ∈ base11, y ∈ partsL.map (·.1) ∧ y ≠ "read" ∧ y ≠ "write" ∧ y ≠ "hold" ∧ y ≠ "send" ∧ y ≠ "take" ∧ y ≠ "off" ∧ y ≠ "start" := by decide +kernel
    obtain ⟨m0, m1, m2, m3, m4, m5, m6, m7⟩ := m z h
    exact ⟨(all z m0).1, (all z m0).2, fun e => absurd e (by simp [m1, m2]), fun e => absurd e m3, fun e => absurd e (by simp [m4, m5]), fun e => absurd e m6, fun e => absurd e m7⟩
  · obtain ⟨b, h⟩ := pk h
    have m : ∀ y ∈ (["read", "write"] : List Str), y ∈ partsL.map (·.1) ∧ y ≠ "hold" ∧ y ≠ "send" ∧ y ≠ "take" ∧ y ≠ "off" ∧ y ≠ "start" := by decide +kernel
    obtain ⟨m0, m3, m4, m5, m6, m7⟩ := m z h
    exact ⟨(all z m0).1, (all z m0).2, fun _ => b, fun e => absurd e m3, fun e => absurd e (by simp [m4, m5]), fun e => absurd e m6, fun e => absurd e m7⟩
  · obtain ⟨b, h⟩ := pk h
    have m : ∀ y ∈ (["hold"] : List Str), y ∈ partsL.map (·.1) ∧ y ≠ "read" ∧ y ≠ "write" ∧ y ≠ "send" ∧ y ≠ "take" ∧ y ≠ "off" ∧ y ≠ "start" := by decide +kernel
    obtain ⟨m0, m1, m2, m4, m5, m6, m7⟩ := m z h
    exact ⟨(all z m0).1, (all z m0).2, fun e => absurd e (by simp [m1, m2]), fun _ => b, fun e => absurd e (by simp [m4, m5]), fun e => absurd e m6, fun e => absurd e m7⟩
  · obtain ⟨b, h⟩ := pk h
    have m : ∀ y ∈ (["send", "take"] : List Str), y ∈ partsL.map (·.1) ∧ y ≠ "read" ∧ y ≠ "write" ∧ y ≠ "hold" ∧ y ≠ "off" ∧ y ≠ "start" := by decide +kernel
    obtain ⟨m0, m1, m2, m3, m6, m7⟩ := m z h
    exact ⟨(all z m0).1, (all z m0).2, fun e => absurd e (by simp [m1, m2]), fun e => absurd e m3, fun _ => b, fun e => absurd e m6, fun e => absurd e m7⟩
  · obtain ⟨b, h⟩ := pk h
    have m : ∀ y ∈ (["off"] : List Str), y ∈ partsL.map (·.1) ∧ y ≠ "read" ∧ y ≠ "write" ∧ y ≠ "hold" ∧ y ≠ "send" ∧ y ≠ "take" ∧ y ≠ "start" := by decide +kernel
    obtain ⟨m0, m1, m2, m3, m4, m5, m7⟩ := m z h
    exact ⟨(all z m0).1, (all z m0).2, fun e => absurd e (by simp [m1, m2]), fun e => absurd e m3, fun e => absurd e (by simp [m4, m5]), fun _ => b, fun e => absurd e m7⟩
  · obtain ⟨b, h⟩ := pk h
    have m : ∀ y ∈ (["start", "start"] : List Str), y ∈ partsL.map (·.1) ∧ y ≠ "read" ∧ y ≠ "write" ∧ y ≠ "hold" ∧ y ≠ "send" ∧ y ≠ "take" ∧ y ≠ "off" := by decide +kernel
    obtain ⟨m0, m1, m2, m3, m4, m5, m6⟩ := m z h
    exact ⟨(all z m0).1, (all z m0).2, fun e => absurd e (by simp [m1, m2]), fun e => absurd e m3, fun e => absurd e (by simp [m4, m5]), fun e => absurd e m6, fun _ e => by rw [e] at b; cases b⟩
theorem kinds_word {z : Str} {ks : List Str} (h : kindsOf z = some ks) : z.length ≤ 6 := by
  have : ∀ q ∈ partsL, q.1.length ≤ 6 := by decide +kernel
  exact this _ (kindsOf_mem h)
/-! ### what is around within -/
theorem ar_of {z nm : Str} {ps : List (Str × Str)} {ks : List Str} {ds : List PyData} (hk : kindsOf z = some ks) (hl : ks.length = ds.length) (ht : ∀ q ∈ ks.zip ds, (q.1 = "scope" ∨ q.1 = "home" ∨ q.1 = "entered" → q.2 = .str nm)) : arD (.tuple (.str z :: ds)) ps = aroundP z nm nm ps := by
  unfold arD
  show aroundP z (homeD (.tuple (.str z :: ds))) (lastD (.tuple (.str z :: ds))) ps = _
  unfold aroundP
  by_cases h1 : z = "start"
  · subst h1
    rw [if_pos rfl, if_pos rfl]
    rw [kinds_start] at hk
    cases hk
    match ds, hl with
    | [a, b], _ =>
      have := ht ("home", a) (List.mem_cons_self ..) (.inr (.inl rfl))
      dsimp only at this
      subst this
      rfl
  · rw [if_neg h1, if_neg h1]
    by_cases h2 : z = "nest"
    · subst h2
      rw [if_pos (.inl rfl), if_pos (.inl rfl)]
      rw [kinds_nest] at hk
      cases hk
      match ds, hl with
      | [a, b], _ =>
        have := ht ("scope", a) (List.mem_cons_self ..) (.inl rfl)
        dsimp only at this
        subst this
        rfl
    · by_cases h3 : z = "within"
      · subst h3
        rw [if_pos (.inr rfl), if_pos (.inr rfl)]
        rw [kinds_within] at hk
        cases hk
        match ds, hl with
        | [t, a, b], _ =>
          have := ht ("scope", a) (List.mem_cons_of_mem _ (List.mem_cons_self ..)) (.inl rfl)
          dsimp only at this
          subst this
          rfl
      · rw [if_neg (fun h => h.elim h2 h3), if_neg (fun h => h.elim h2 h3)]
end TP
namespace TP
open PySem PySem.Spec PyProof.Rows L2 HX HB HG HU HH HD HS HV HQ HK HN TL
/-! ### a row -/
/-- the rows that stand in a body -/
def spLb (K : PySem.W.Frag) (r : Nat) : Sp := fun vs H Q _ => ∃ (d g c pl C L Ch W a : Addr) (cs : List (Str × Int)) (ls : List Str) (hs : List (Str × Int)) (ws : List Str) (k : Nat) (ps : List (Str × Str)) (deep : Nat) (oft : Int), vs = [.ref d, .ref pl, .ref a, .int (deep : Int), .int oft] ∧ deep + r = 10 ∧ Dr H d g c ∧ Play H d g c pl C L Ch W cs ls hs ws k ∧ Nm cs ls hs ws ∧ Al K H a ps ∧ PsOk ps ∧ ps.length ≤ deep ∧ a ∉ [d, g, pl] ∧ oft ≤ 3 ∧
  ∀ (v : V) (rows : List PyData) (H' : Hp) (m k' : Nat), Dp K H' v (.tuple rows) → Rows (cs.map (·.1)) ls (hs.map (·.1)) ps deep oft rows m → m + k' = k → rows.length ≤ 3 → Dr H' d g c → Play H' d g c pl C L Ch W cs ls hs ws k' → But [d, g, pl] H H' → Q v H'
def spLr (K : PySem.W.Frag) (r : Nat) : Sp := fun vs H Q _ => ∃ (d g c pl C L Ch W a : Addr) (cs : List (Str × Int)) (ls : List Str) (hs : List (Str × Int)) (ws : List Str) (k : Nat) (ps : List (Str × Str)) (deep : Nat) (oft : Int), vs = [.ref d, .ref pl, .ref a, .int (deep : Int), .int oft] ∧ deep + r = 9 ∧ Dr H d g c ∧ Play H d g c pl C L Ch W cs ls hs ws k ∧ Nm cs ls hs ws ∧ Al K H a ps ∧ PsOk ps ∧ ps.length ≤ deep ∧ a ∉ [d, g, pl] ∧ oft ≤ 3 ∧
  ∀ (v : V) (row : PyData) (H' : Hp) (m k' : Nat), Dp K H' v row → Row1 (cs.map (·.1)) ls (hs.map (·.1)) ps deep oft row (1 + m) → m + k' = k → Dr H' d g c → Play H' d g c pl C L Ch W cs ls hs ws k' → But [d, g, pl] H H' → Q v H'
/-- the name told, and what is around within -/
structure Named (ps ps' : List (Str × Str)) (z nm : Str) : Prop where
  own : z = "nest" ∨ z = "within" → isNameL nm = true ∧ nm ∉ ps.map (·.1)
  off : z = "off" → nm ∈ ps.map (·.1)
  home : z = "start" → (nm, ("nest" : Str)) ∈ ps
  ar : aroundP z nm nm ps = ps'
section
variable {P : Program} {w : World} {K : PySem.W.Frag} {mg : Str → Option Value} {base : Heap}
/-- where it may be started or called off -/
def hcd (z : Str) (ps : List (Str × Str)) (k : Nat) : Bool := decide (z = "off") || decide ((ps[k]?).map (·.2) = some ("nest" : Str))
def homes (z : Str) (ps : List (Str × Str)) (i : Nat) : List Nat := (List.range i).filter (hcd z ps)
theorem dpAll_take {K : PySem.W.Frag} {H : Hp} : ∀ {n : Nat} {vs : List V} {xs : List PyData}, DpAll K H vs xs → DpAll K H (vs.take n) (xs.take n)
  | 0, _, _, _ => .nil
  | n + 1, _, _, .nil => .nil
  | n + 1, _, _, .cons a b => .cons a (dpAll_take b)
theorem idx_nd {l : List Str} (h : l.Nodup) {k : Nat} (hk : k < l.length) : l.idxOf l[k] = k := by
  have m : l[k] ∈ l := List.getElem_mem hk
  have l1 : l.idxOf l[k] < l.length := List.idxOf_lt_length_of_mem m
  have e1 : l[l.idxOf l[k]] = l[k] := List.getElem_idxOf l1
  rcases Nat.lt_trichotomy (l.idxOf l[k]) k with h1 | h1 | h1
  · exact absurd e1 (List.pairwise_iff_getElem.mp h _ _ l1 hk h1)
  · exact h1
  · exact absurd e1.symm (List.pairwise_iff_getElem.mp h _ _ hk l1 h1)
def yspare : List Str := ["ya", "yb", "yc", "yd", "ye", "yf", "yg", "yh", "yi", "yj"]
theorem yspare_names : ∀ z ∈ yspare, isNameL z = true := by decide +kernel
theorem yspare_nodup : yspare.Nodup := by decide +kernel
theorem Al.up {d g c pl a : Addr} {H H' : Hp} {ps : List (Str × Str)} (A : Al K H a ps) (D : Dr H d g c) (u : Up d g H H') (ha : a ∉ [d, g, pl]) : Al K H' a ps := by
  obtain ⟨vs, h1, h2⟩ := A.ex
  exact ⟨vs, u _ _ h1 (fun e => ha (by rw [e]; simp)) (fun e => ha (by rw [e]; simp)), u.dpAll D (tup_pairs ps) h2⟩
theorem Al.but {d g c pl C L Ch W a : Addr} {H H' : Hp} {cs : List (Str × Int)} {ls : List Str} {hs : List (Str × Int)} {ws : List Str} {k : Nat} {ps : List (Str × Str)} (A : Al K H a ps) (D : Dr H d g c) (Y : Play H d g c pl C L Ch W cs ls hs ws k) (u : But [d, g, pl] H H') (ha : a ∉ [d, g, pl]) : Al K H' a ps := by
  obtain ⟨vs, h1, h2⟩ := A.ex
  exact ⟨vs, u _ _ h1 ha, Y.dpAll D u (tup_pairs ps) h2⟩
/-! ### the loop over the parts -/
structure LrI (K : PySem.W.Frag) (H0 H : Hp) (d g c pl C L Ch W rp : Addr) (cs : List (Str × Int)) (ls : List Str) (hs : List (Str × Int)) (ps ps' : List (Str × Str)) (deep : Nat) (more : Int) (nm z s : Str) (i : Nat) (vs : List V) (ds : List PyData) (m k : Nat) : Prop where
  hrp : H rp = some (.lst (.str z :: vs))
  hds : DpAll K H vs ds
  parts : Parts (cs.map (·.1)) ls (hs.map (·.1)) ps ps' deep more nm ((s.cps.toList.take i).map (kindL z)) ds m
  hpl : H pl = some (.dK (pl5 C L Ch W (k : Int)))
  D : Dr H d g c
  but : But [d, g, pl] H0 H
theorem Parts.tup {cn ls hn : List Str} {ps ps' : List (Str × Str)} {deep k : Nat} {more : Int} {nm : Str} {ks : List Str} {ds : List PyData} (h : Parts cn ls hn ps ps' deep more nm ks ds k) : tupAll ds = true := by
  induction h with
  | nil => rfl
  | snoc h p ih => exact tupAll_app ih (by simp only [tupAll, p.tup, Bool.and_self])
variable {H0 H H' : Hp} {d g c pl C L Ch W rp : Addr} {cs : List (Str × Int)} {ls : List Str} {hs : List (Str × Int)} {ws : List Str} {ps ps' : List (Str × Str)} {deep : Nat} {more : Int} {nm z s : Str} {i k k' m m' : Nat} {vs : List V} {ds : List PyData} {v : V} {x : PyData}
theorem LrI.play (I : LrI K H0 H d g c pl C L Ch W rp cs ls hs ps ps' deep more nm z s i vs ds m k) {k0 : Nat} (Y : Play H0 d g c pl C L Ch W cs ls hs ws k0) : Play H d g c pl C L Ch W cs ls hs ws k := Y.but I.but I.hpl
theorem LrI.step (I : LrI K H0 H d g c pl C L Ch W rp cs ls hs ps ps' deep more nm z s i vs ds m k) {k0 : Nat} (Y : Play H0 d g c pl C L Ch W cs ls hs ws k0) (nrp : H0 rp = none) (hrp : rp ∉ [d, g, pl]) (rpc : rp ≠ c) {e : Nat} (he : s.cps[i]? = some e)
    (u : But [d, g, pl] H H') (D' : Dr H' d g c) (hpl' : H' pl = some (.dK (pl5 C L Ch W (k' : Int)))) (hv : Dp K H' v x) (p : PartOk (cs.map (·.1)) ls (hs.map (·.1)) ps ps' deep more nm (kindL z e) x m') :
    H' rp = some (.lst (.str z :: vs)) ∧ LrI K H0 (upd H' rp (.lst ((.str z :: vs) ++ [v]))) d g c pl C L Ch W rp cs ls hs ps ps' deep more nm z s (i + 1) (vs ++ [v]) (ds ++ [x]) (m + m') k' := by
  have h1 := u _ _ I.hrp hrp
  have YH := I.play Y
  refine ⟨h1, upd_same, ?_, ?_, ?_, ?_, ?_⟩
  · exact dpAll_keep (fun _ _ h => sqt_setl h1 h) (tupAll_app I.parts.tup (by simp only [tupAll, p.tup, Bool.and_self])) (dpAll_app (YH.dpAll I.D u I.parts.tup I.hds) (.cons hv .nil))
  · rw [List.take_add_one, Array.getElem?_toList, he, List.map_append]
    exact .snoc I.parts p
  · rw [upd_ne (fun e => hrp (by rw [e]; simp))]
    exact hpl'
  · exact D'.set (fun e => hrp (by rw [e]; simp)) (fun e => hrp (by rw [e]; simp)) rpc
  · exact (I.but.trans u).own nrp
theorem LrI.few (I : LrI K H0 H d g c pl C L Ch W rp cs ls hs ps ps' deep more nm z s i vs ds m k) (h3 : s.length ≤ 3) : (V.str z :: vs).length < sizeLine := by
  have h1 := I.parts.len
  have h2 := dpAll_len I.hds
  rw [List.length_map, List.length_take] at h1
  have h4 : s.cps.toList.length = s.length := by rw [Array.length_toList]; rfl
  exact small1000 (by rw [List.length_cons]; omega)
end
/-! ### parts -/
section
variable {cs ls hs : List Str} {ps ps' : List (Str × Str)} {deep : Nat} {more : Int} {nm z kind : Str} {d : PyData}
theorem PartOk.leaf (h : isPartD cs ls hs ps kind d = true) (g : Good d 2) (t : tupD d = true) (hw : wtD d ≤ 130) (hb : kind ≠ "body") (ht : kind = "scope" ∨ kind = "home" ∨ kind = "entered" → d = .str nm) : PartOk cs ls hs ps ps' deep more nm kind d 0 :=
  ⟨h, g.mono (by omega), t, fun e => absurd e hb, fun _ => rfl, ht, hw⟩
theorem mergeZ_new : ∀ (ps acc : List (Str × Str)), ((acc ++ ps).map (·.1)).Nodup → mergeZ acc ps = acc ++ ps
  | [], acc, _ => by rw [List.append_nil]; rfl
  | p :: ps, acc, h => by
    have e : putZ acc p.1 p.2 = acc ++ [p] := by
      unfold putZ
      rw [if_neg]
      intro ha
      obtain ⟨q, hq, hqp⟩ := List.any_eq_true.mp ha
      rw [List.map_append, List.nodup_append] at h
      exact h.2.2 q.1 (List.mem_map.mpr ⟨q, hq, rfl⟩) p.1 (by rw [List.map_cons]; exact List.mem_cons_self ..) (of_decide_eq_true hqp)
    show mergeZ (putZ acc p.1 p.2) ps = _
    rw [e, mergeZ_new ps (acc ++ [p]) (by rw [List.append_assoc]; exact h), List.append_assoc]
    rfl
theorem look_in (h : PsOk ps) {w : Str} (hm : (z, w) ∈ ps) : lookW ps z = some w := by
  unfold lookW
  rw [mergeZ_new ps [] h.nd, List.nil_append]
  exact (lookS_mem h.nd).mpr hm
theorem part_hm (h : PsOk ps) (hm : (z, ("nest" : Str)) ∈ ps) : isPartD cs ls hs ps "home" (.str z) = true := by
  show (isNameL z && decide (lookW ps z = some ("nest" : Str))) = true
  rw [h.names _ hm, look_in h hm]
  rfl
theorem part_of (h : PsOk ps) (hm : z ∈ ps.map (·.1)) : isPartD cs ls hs ps "entered" (.str z) = true := by
  obtain ⟨q, hq, rfl⟩ := List.mem_map.mp hm
  show (isNameL q.1 && (decide (("entered" : Str) = "name") || decide ((lookW ps q.1).isSome = decide (("entered" : Str) = "entered")))) = true
  rw [h.names _ hq, look_in h (w := q.2) hq]
  rfl
theorem part_cell (h : isNameL z = true) (hm : z ∈ cs) : isPartD cs ls hs ps "cell" (.str z) = true := by
  show (isNameL z && decide (z ∈ cs)) = true
  rw [h, decide_eq_true hm]
  rfl
theorem part_lock (h : isNameL z = true) (hm : z ∈ ls) : isPartD cs ls hs ps "lock" (.str z) = true := by
  show (isNameL z && decide (z ∈ ls)) = true
  rw [h, decide_eq_true hm]
  rfl
theorem part_lane (h : isNameL z = true) (hm : z ∈ hs) : isPartD cs ls hs ps "channel" (.str z) = true := by
  show (isNameL z && decide (z ∈ hs)) = true
  rw [h, decide_eq_true hm]
  rfl
theorem part_rng {lo hi i : Int} (hr : rangeOf kind = some (lo, hi)) (h1 : kind ≠ "calc") (h2 : kind ≠ "body") (h3 : lo ≤ i) (h4 : i ≤ hi) : isPartD cs ls hs ps kind (.int i) = true := by
  unfold isPartD
  rw [if_neg h1, if_neg h2, hr]
  show (decide (lo ≤ i) && decide (i ≤ hi)) = true
  rw [decide_eq_true h3, decide_eq_true h4]
  rfl
/-- which letter goes with which word -/
theorem letter_words : ∀ q ∈ shapes, q.2.cps.toList.all (fun c => decide ((c = 98 → q.1 ≠ "off") ∧ (c = 115 → q.1 = "nest" ∨ q.1 = "within" ∨ q.1 = "start" ∨ q.1 = "off") ∧ (c = 120 → q.1 = "read" ∨ q.1 = "write") ∧ (c = 108 → q.1 = "hold") ∧ (c = 118 → q.1 = "send" ∨ q.1 = "take") ∧ (c = 116 → q.1 = "rest" ∨ q.1 = "within" ∨ q.1 = "often"))) = true := by decide +kernel
theorem shape_mem {s : Str} (h : lookS shapes z = some s) : (z, s) ∈ shapes := (lookS_mem (by decide +kernel)).mp h
theorem letter_of {s : Str} (h : lookS shapes z = some s) {i c : Nat} (hc : s.cps[i]? = some c) : (c = 98 → z ≠ "off") ∧ (c = 115 → z = "nest" ∨ z = "within" ∨ z = "start" ∨ z = "off") ∧ (c = 120 → z = "read" ∨ z = "write") ∧ (c = 108 → z = "hold") ∧ (c = 118 → z = "send" ∨ z = "take") ∧ (c = 116 → z = "rest" ∨ z = "within" ∨ z = "often") := by
  have h1 := List.all_eq_true.mp (letter_words _ (shape_mem h)) c (by rw [← Array.getElem?_toList] at hc; exact List.mem_of_getElem? hc)
  exact of_decide_eq_true h1
theorem letter_in {s : Str} (h : lookS shapes z = some s) {i c : Nat} (hc : s.cps[i]? = some c) : c ∈ [110, 99, 120, 108, 118, 98, 115, 116] := by
  have h1 := List.all_eq_true.mp (shape_lets _ (shape_mem h)).1 c (by rw [← Array.getElem?_toList] at hc; exact List.mem_of_getElem? hc)
  exact of_decide_eq_true h1
end
end TP
namespace TP
open PySem PySem.Spec PyProof.Rows L2 HX HB HG HU HH HD HS HV HQ HK HN TL
section
variable {P : Program} {w : World} {K : PySem.W.Frag} {mg : Str → Option Value} {base : Heap}
def xlvD : List (Str × Str) := [("x", "cells"), ("l", "locks"), ("v", "channels")]
theorem xlv_x {H : Hp} {e : Addr} (h : H e = some (.dK (dz xlvD))) : DGet H e (.str ⟨#[120]⟩) (some (.str "cells")) := .inl ⟨_, Sum.inr ⟨#[120]⟩, .inl h, rfl, by rw [lookS_val, show lookS xlvD ⟨#[120]⟩ = some ("cells" : Str) by decide +kernel]; rfl⟩
theorem xlv_l {H : Hp} {e : Addr} (h : H e = some (.dK (dz xlvD))) : DGet H e (.str ⟨#[108]⟩) (some (.str "locks")) := .inl ⟨_, Sum.inr ⟨#[108]⟩, .inl h, rfl, by rw [lookS_val, show lookS xlvD ⟨#[108]⟩ = some ("locks" : Str) by decide +kernel]; rfl⟩
theorem xlv_v {H : Hp} {e : Addr} (h : H e = some (.dK (dz xlvD))) : DGet H e (.str ⟨#[118]⟩) (some (.str "channels")) := .inl ⟨_, Sum.inr ⟨#[118]⟩, .inl h, rfl, by rw [lookS_val, show lookS xlvD ⟨#[118]⟩ = some ("channels" : Str) by decide +kernel]; rfl⟩
theorem ok_lrow (T : Tp K w mg) {r L : Nat} (hL : 4 ≤ L) (hb : FnOk P w K mg base CX0 L T.f_lbody T.fd_lbody ["_law_draw", "_law_play", "_law_around", "_law_deep", "_law_oftens"] (spLb K r)) : FnOk P w K mg base CX0 (L + 1) T.f_lrow T.fd_lrow ["_law_draw", "_law_play", "_law_around", "_law_deep", "_law_oftens"] (spLr K r) := by
  refine T.D_lrow.F.ok sc_lrow (fun vs H Q E h => ?_) (fun cdv A outer s H vs Q E hr h => ?_)
  · obtain ⟨d, g, c, pl, C, L, Ch, W, a, cs, ls, hs, ws, k, ps, deep, oft, rfl, _⟩ := h
    rfl
  · obtain ⟨d, g, c, pl, C, Lk, Ch, W, a, cs, ls, hs, ws, k, ps, deep, oft, rfl, hdr, D, Y, N, hal, hps, hpl, ha, ho, q⟩ := h
    have hu := hu_of hr
    refine ⟨_, (pss_cons (ps_set (i := 5) sc_lrow.nd rfl (.inl rfl) (pcall T.D_possible (ok_possible T) (hr.mono (by omega)) (by rfl) (pa_cons (pv 1) (pa_cons (pv 2) pa_nil))))
  (pss_cons (ps_set (i := 6) sc_lrow.nd rfl (.inr rfl) (pe_ix ix_list (pv 5) (pcall T.D_next (ok_next T) (hr.mono (by omega)) (by rfl) (pa_cons (pv 0) (pa_cons (pe_callB call_len_seq (by rfl) T.len PySem.boot_len (pa_cons (pv 5) pa_nil)) pa_nil))) (fun _ _ => rfl)))
  (Evl.pss_cut (ps_if (PW.pt (pw_and (pt_cmpR op_eq (pv 6) pe_str (nomark _)) (pw_and1 (pt_cmpR op_gt (pv 4) pe_int (nomark _)))))
  (pss_one (ps_set (i := 6) sc_lrow.nd rfl (.inr rfl) pe_str))
  pss_nil)
  (pss_cons (ps_par3 (i := 7) (j := 8) (l := 9) rfl sc_lrow.nd rfl rfl rfl (by decide) (by decide) (by decide) rfl rfl rfl (pa_cons (pe_callTy call_list_of (by rfl) T.list (by decide +kernel) (pa_cons (pv 2) pa_nil)) (pa_cons (pe_op op_add (pv 4) (pe_callTy call_int1 (by rfl) T.int (by decide +kernel) (pa_cons (pe_cmpR op_eq (pv 6) pe_str (nomark _)) pa_nil))) (pa_cons pe_str pa_nil))) (by rfl))
  (pss_cons (ps_set (i := 10) sc_lrow.nd rfl (.inr rfl) (pe_lc (own := [("_law_pair", 16)]) (g := gName 16) (by rfl) sc_lrow.nd (pi_list (pv 2)) (blkOk_by (own := [("_law_pair", 16)]) (N := ["_law_draw", "_law_play", "_law_around", "_law_deep", "_law_oftens", "_law_some", "_law_word", "_law_inner", "_law_more", "_law_name_here", "_law_names_here", "_law_homes", "_law_at", "_law_row_here", "_law_part", "_law_pool", "_law_pair", "_law_one", "_law_k"]) (sc := defScope s_lrow) (by decide +kernel)) (fun _ _ _ _ _ => (pg_name (i := 16) sc_lrow.nd rfl (.inl rfl))) (fun _ _ _ _ _ => pts_nil) (fun _ _ _ _ _ => (pe_ix (show IxR _ (rIxT K) from ix_tup) (pv 16) pe_int (fun _ _ => rfl)))))
  (Evl.pss_cut (ps_if (pt_cmpR op_in_seq (pv 6) (pe_lst (pa_cons pe_str (pa_cons pe_str pa_nil))) (by rfl))
  (pss_cons (ps_set (i := 9) sc_lrow.nd rfl (.inl rfl) (pcall T.D_name (ok_name T) (hr.mono (by omega)) (by rfl) (pa_cons (pv 0) pa_nil)))
  (Evl.pss_cut (ps_if (pt_cmpR op_in_seq (pv 9) (pv 10) (by rfl))
  (pss_one (ps_set (i := 9) sc_lrow.nd rfl (.inl rfl) (pe_ix ix_list (pe_lc (own := [("_law_one", 17)]) (g := gName 17) (by rfl) sc_lrow.nd (pi_list (pe_lst (pa_cons pe_str (pa_cons pe_str (pa_cons pe_str (pa_cons pe_str (pa_cons pe_str (pa_cons pe_str (pa_cons pe_str (pa_cons pe_str (pa_cons pe_str (pa_cons pe_str pa_nil)))))))))))) (blkOk_by (own := [("_law_one", 17)]) (N := ["_law_draw", "_law_play", "_law_around", "_law_deep", "_law_oftens", "_law_some", "_law_word", "_law_inner", "_law_more", "_law_name_here", "_law_names_here", "_law_homes", "_law_at", "_law_row_here", "_law_part", "_law_pool", "_law_pair", "_law_one", "_law_k"]) (sc := defScope s_lrow) (by decide +kernel)) (fun _ _ _ _ _ => (pg_name (i := 17) sc_lrow.nd rfl (.inl rfl))) (fun _ _ _ _ _ => (pts_one (pt_cmpR (show OpR _ _ (rIn K true) from op_notIn_seq) (pv 17) (pv 10) (by rfl)))) (fun _ _ _ _ _ => (pv 17))) pe_int (fun _ _ => rfl))))
  pss_nil)
  (pss_one (ps_expr (pe_bm PySem.F.plainAttrs_list PySem.F.slot_list_append PySem.F.type_list_append mt_append (pv 7) (pa_cons (pe_tup (pa_cons (pv 9) (pa_cons (pv 6) pa_nil))) pa_nil))))))
  pss_nil)
  (Evl.pss_cut (ps_if (pt_cmpR op_in_seq (pv 6) (pe_lst (pa_cons pe_str (pa_cons pe_str pa_nil))) (by rfl))
  (pss_cons (ps_setLc (i := 11) (own := [("_law_k", 18)]) (g := gName 18) (by rfl) sc_lrow.nd rfl rfl (sw_true rfl rfl rfl (by decide +kernel)) (pi_range1 (by rfl) T.range (pa_cons (pe_callB call_len_seq (by rfl) T.len PySem.boot_len (pa_cons (pv 2) pa_nil)) pa_nil)) (blkOk_by (own := [("_law_k", 18)]) (N := ["_law_draw", "_law_play", "_law_around", "_law_deep", "_law_oftens", "_law_some", "_law_word", "_law_inner", "_law_more", "_law_name_here", "_law_names_here", "_law_homes", "_law_at", "_law_row_here", "_law_part", "_law_pool", "_law_pair", "_law_one", "_law_k"]) (sc := defScope s_lrow) (by decide +kernel)) (fun _ _ _ _ _ => (pg_name (i := 18) sc_lrow.nd rfl (.inl rfl))) (fun _ _ _ _ _ => (pts_one (PW.pt (pw_or (pt_cmpR op_eq (pv 6) pe_str (nomark _)) (pw_or1 (pt_cmpR op_eq (pe_ix (show IxR _ (rIxT K) from ix_tup) (pe_ix (show IxR _ (rIxL K) from ix_list) (pv 2) (pv 18) (fun _ _ => rfl)) pe_int (fun _ _ => rfl)) pe_str (nomark _))))))) (fun _ _ _ _ _ => (pv 18)))
  (pss_cons (ps_set (i := 12) sc_lrow.nd rfl (.inl rfl) (pe_ix ix_list (pv 11) (pcall T.D_next (ok_next T) (hr.mono (by omega)) (by rfl) (pa_cons (pv 0) (pa_cons (pe_callB call_len_seq (by rfl) T.len PySem.boot_len (pa_cons (pv 11) pa_nil)) pa_nil))) (fun _ _ => rfl)))
  (pss_one (ps_par (i := 9) (j := 7) rfl sc_lrow.nd rfl rfl (by decide) rfl rfl (pa_cons (pe_ix ix_tup (pe_ix ix_list (pv 2) (pv 12) (fun _ _ => rfl)) pe_int (fun _ _ => rfl)) (pa_cons (pe_slice sl_list (pv 7) po_none (po_some (pe_op op_add (pv 12) pe_int))) pa_nil)) (by rfl)))))
  pss_nil)
  (pss_cons (ps_set (i := 13) sc_lrow.nd rfl (.inl rfl) (pe_lst (pa_cons (pv 6) pa_nil)))
  (pss_cons (ps_for PassesOwn.never rfl (pi_str (pcall T.D_shape (ok_shape T) (hr.mono (by omega)) (by rfl) (pa_cons (pv 6) pa_nil))) (pg_name (i := 14) sc_lrow.nd rfl (.inl rfl))
  (pss_one (ps_if (pt_cmpR op_eq (pv 14) pe_str (nomark _))
  (pss_one (ps_expr (pe_bm PySem.F.plainAttrs_list PySem.F.slot_list_append PySem.F.type_list_append mt_append (pv 13) (pa_cons (pcall T.D_lbody hb (hr.mono (by omega)) (by rfl) (pa_cons (pv 0) (pa_cons (pv 1) (pa_cons (pv 7) (pa_cons (pe_op op_add (pv 3) pe_int) (pa_cons (pv 8) pa_nil)))))) pa_nil))))
  (pss_one (ps_if (pt_cmpR op_eq (pv 14) pe_str (nomark _))
  (pss_one (ps_expr (pe_bm PySem.F.plainAttrs_list PySem.F.slot_list_append PySem.F.type_list_append mt_append (pv 13) (pa_cons (pcall T.D_lcalc (ok_lcalc T 2) (hr.mono (by omega)) (by rfl) (pa_cons (pv 0) (pa_cons (pv 1) (pa_cons pe_int pa_nil)))) pa_nil))))
  (pss_one (ps_if (pt_cmpR op_eq (pv 14) pe_str (nomark _))
  (pss_one (ps_expr (pe_bm PySem.F.plainAttrs_list PySem.F.slot_list_append PySem.F.type_list_append mt_append (pv 13) (pa_cons (pe_ix ix_list (pe_dget hu (pv 1) pe_str (fun _ _ => rfl)) (pcall T.D_next (ok_next T) (hr.mono (by omega)) (by rfl) (pa_cons (pv 0) (pa_cons pe_int pa_nil))) (fun _ _ => rfl)) pa_nil))))
  (pss_one (ps_if (pt_cmpR op_eq (pv 14) pe_str (nomark _))
  (pss_one (ps_expr (pe_bm PySem.F.plainAttrs_list PySem.F.slot_list_append PySem.F.type_list_append mt_append (pv 13) (pa_cons (pv 9) pa_nil))))
  (pss_one (ps_if (pt_cmpR op_in_sign (pv 14) pe_str rfl)
  (pss_cons (ps_set (i := 15) sc_lrow.nd rfl (.inl rfl) (pe_callTy (HN.call_listAny rfl) (by rfl) T.list (by decide +kernel) (pa_cons (pe_dget hu (pv 1) (pe_dget hu (pe_disp (pps_cons pe_str pe_str (pps_cons pe_str pe_str (pps_cons pe_str pe_str pps_nil))) (by rfl) (by rfl) (fun z => by cases z) (by decide)) (pv 14) (fun _ _ => rfl)) (fun _ _ => rfl)) pa_nil)))
  (pss_one (ps_expr (pe_bm PySem.F.plainAttrs_list PySem.F.slot_list_append PySem.F.type_list_append mt_append (pv 13) (pa_cons (pe_ix ix_list (pv 15) (pcall T.D_next (ok_next T) (hr.mono (by omega)) (by rfl) (pa_cons (pv 0) (pa_cons (pe_callB call_len_seq (by rfl) T.len PySem.boot_len (pa_cons (pv 15) pa_nil)) pa_nil))) (fun _ _ => rfl)) pa_nil)))))
  (pss_one (ps_expr (pe_bm PySem.F.plainAttrs_list PySem.F.slot_list_append PySem.F.type_list_append mt_append (pv 13) (pa_cons (pe_dget2 hu (pe_disp (pps_cons pe_str (pcall T.D_next (ok_next T) (hr.mono (by omega)) (by rfl) (pa_cons (pv 0) (pa_cons pe_int pa_nil))) (pps_cons pe_str (pe_op op_add pe_int (pcall T.D_next (ok_next T) (hr.mono (by omega)) (by rfl) (pa_cons (pv 0) (pa_cons pe_int pa_nil)))) pps_nil)) (by rfl) (by rfl) (fun z => by cases z) (by decide)) (pv 6) (pcall T.D_next (ok_next T) (hr.mono (by omega)) (by rfl) (pa_cons (pv 0) (pa_cons pe_int pa_nil))) ⟨by rfl, by rfl, by rfl, by rfl⟩) pa_nil)))))))))))))))
  (pss_one (ps_ret (pe_callTy call_tuple_of (by rfl) T.tuple (by decide +kernel) (pa_cons (pv 13) pa_nil))))))))))))), ?_⟩
    refine ⟨_, rfl, _, rfl, d, g, c, pl, C, Lk, Ch, W, a, cs, ls, hs, ws, k, ps, rfl, Y, N, hal, hps, fun p H1 s1 hp np => ?_⟩
    have D1 := D.same s1
    generalize ePW : possW (!decide (cs.length = 0)) (!decide (ls.length = 0)) (!decide (hs.length = 0)) (!decide (ps.length = 0)) ps = pw at hp
    have pD := D.apart np
    have lpw : pw.length ≤ 30 := by rw [← ePW]; exact poss_len ..
    have lpw1 : 1 ≤ pw.length := by rw [← ePW]; unfold possW; simp only [List.length_append]; have : base11.length = 11 := rfl; omega
    refine ⟨_, rfl, _, rfl, _, rfl, p, _, rfl, .inl (sl hp), d, g, c, ((pw.map V.str).length : Int), rfl, D1, by rw [List.length_map]; omega, by rw [List.length_map]; exact Int.le_trans (Int.ofNat_le.mpr lpw) (by decide), fun r0 H2 a0 a1 D2 u2 => ?_⟩
    rw [List.length_map] at a1
    obtain ⟨j, rfl⟩ : ∃ j : Nat, r0 = (j : Int) := ⟨r0.toNat, by omega⟩
    have hj : j < pw.length := by omega
    refine ⟨p, _, _, .str pw[j], rfl, rfl, sl (u2 _ _ hp pD.1 pD.2.1), atI_nat (by rw [List.getElem?_map, List.getElem?_eq_getElem hj]; rfl), ?_⟩
    have hz0 : pw[j] ∈ pw := List.getElem_mem hj
    generalize pw[j] = z0 at hz0 ⊢
    have u12 := (Up.of s1).trans u2
    have Y2 := Y.up u12
    have hal2 := hal.up D u12 ha
    refine ⟨fun σ H3 => ∃ z : Str, σ = [some (.ref d), some (.ref pl), some (.ref a), some (.int (deep : Int)), some (.int oft), some (.ref p), some (.str z), none, none, none, none, none, none, none, none, none, none, none, none] ∧ z ∈ pw ∧ (z = "often" → oft ≤ 2) ∧ H3 = H2, ?_, ?_⟩
    · refine ⟨_, rfl, rfl, _, rfl, ?_⟩
      rw [es_str]
      refine ite2 (fun e1 => ⟨_, rfl, _, _, rfl, rfl, _, rfl, ite2 (fun e2 => ?_) (fun e2 => ?_)⟩) (fun e1 => iteF ⟨z0, rfl, hz0, fun e => absurd (decide_eq_true e) e1, rfl⟩)
      · refine ⟨"shield", rfl, ?_, fun e => absurd e (by decide), rfl⟩
        rw [← ePW]
        unfold possW
        simp only [List.mem_append]
        exact .inl (.inl (.inl (.inl (.inl (by decide)))))
      · exact ⟨z0, rfl, hz0, fun e => by have := mt decide_eq_true e2; omega, rfl⟩
    rintro σ H3 ⟨z, rfl, hz, hzo, rfl⟩
    clear hz0
    obtain ⟨avs, hav, hdv⟩ := hal2.ex
    refine ⟨_, rfl, a, avs, rfl, .inl (sl hav), fun q0 nq0 => ?_⟩
    have s3 := same_upd (o := .lst avs) nq0
    have hq0 : (upd H3 q0 (.lst avs)) q0 = some (.lst avs) := upd_same
    have D3 := D2.same s3
    have u3 : Up d g H (upd H3 q0 (.lst avs)) := u12.trans (Up.of s3)
    have hq0n : q0 ∉ [d, g, pl] := by
      intro hm
      simp only [List.mem_cons, List.not_mem_nil, or_false] at hm
      have nD := D2.apart nq0
      rcases hm with e | e | e
      · exact nD.1 e
      · exact nD.2.1 e
      · rw [e, Y2.hpl] at nq0; cases nq0
    have nqH : H q0 = none := u12.free nq0 (D2.apart nq0).1 (D2.apart nq0).2.1
    have hdv3 := s3.dpAll hdv
    have hav3 := s3 _ _ hav
    have q0a : q0 ≠ a := fun e => by rw [e, hav] at nq0; cases nq0
    generalize upd H3 q0 (.lst avs) = H4 at s3 hq0 D3 u3 hdv3 hav3 ⊢
    refine ⟨_, rfl, _, rfl, rfl, .inr ⟨_, rfl, _, _, rfl, rfl, _, _, _, rfl, nx_ ?_⟩⟩
    show tSeq _ _ _ [some (.ref d), some (.ref pl), some (.ref a), some (.int (deep : Int)), some (.int oft), some (.ref p), some (.str z), some (.ref q0), some (.int (oft + if decide (V.str z = V.str "often") = true then 1 else 0)), some (.str ""), none, none, none, none, none, none, none, none, none] H4
    rw [es_str]
    have em : oft + (if decide (z = "often") = true then (1 : Int) else 0) = oft + (if z = "often" then 1 else 0) := by
      by_cases e : z = "often" <;> simp [e]
    have hm3 : oft + (if z = "often" then (1 : Int) else 0) ≤ 3 := by
      by_cases e : z = "often"
      · have := hzo e; rw [if_pos e]; omega
      · rw [if_neg e]; omega
    rw [em]
    generalize emo : oft + (if z = "often" then (1 : Int) else 0) = more at hm3 ⊢
    clear em
    -- the names that are around
    refine ⟨_, rfl, a, rfl, ⟨_, sl hav3⟩, fun R nR => ?_⟩
    have hl := dpAll_len hdv3
    rw [List.length_map] at hl
    refine lc_it (walk_list (xs := avs)) (fun i H6 => Same H4 H6 ∧ H6 R = some (.lst (((ps.take i).map (·.1)).map V.str))) ⟨same_upd nR, upd_same⟩ (fun i H6 _ g => sl (g.1 _ _ hav3)) ?_ ?_
    · rintro i x H5 H6 hi ⟨sm, hR⟩ ⟨rfl, g1⟩
      have hip : i < ps.length := by omega
      obtain ⟨v, ev, hv⟩ := dp_at hdv3 (i := i) (d := pairD ps[i]) (by rw [List.getElem?_map, List.getElem?_eq_getElem hip]; rfl)
      rw [ev] at g1
      cases g1
      have hv := sm.dp hv
      obtain ⟨t, e, ht⟩ := dp_pair hv
      subst e
      refine ⟨rfl, _, rfl, _, _, _, _, rfl, rfl, ht, atI_nat (j := 0) rfl, _, hR, ?_, sm.own nR, ?_⟩
      · rw [List.length_map, List.length_map]
        exact small1000 (Nat.le_trans (List.length_take_le _ _) (by have := hps.few; omega))
      · rw [upd_same, List.take_add_one, List.getElem?_eq_getElem hip, List.map_append, List.map_append]
        rfl
    rintro H5 ⟨sm, hR⟩
    rw [hl, List.take_length] at hR
    have D5 := D3.same sm
    have u5 := u3.trans (Up.of sm)
    have hq5 := sm _ _ hq0
    have hdv5 := sm.dpAll hdv3
    have hav5 := sm _ _ hav3
    have hRn : R ∉ [d, g, pl] := by
      intro hm
      simp only [List.mem_cons, List.not_mem_nil, or_false] at hm
      have nD := D3.apart nR
      rcases hm with e | e | e
      · exact nD.1 e
      · exact nD.2.1 e
      · rw [e, (Y.up u3).hpl] at nR; cases nR
    have qR : q0 ≠ R := fun e => by rw [← e, hq0] at nR; cases nR
    clear hq0 hdv3 hav3 hal2 nR hdv hav s3
    generalize eN : ps.map (·.1) = names at hR
    -- nests and withins
    refine ⟨fun σ H6 => ∃ (nm : Str) (vs2 : List V), σ = [some (.ref d), some (.ref pl), some (.ref a), some (.int (deep : Int)), some (.int oft), some (.ref p), some (.str z), some (.ref q0), some (.int more), some (.str nm), some (.ref R), none, none, none, none, none, none, none, none] ∧ H6 q0 = some (.lst vs2) ∧ DpAll K H6 vs2 ((if z = "nest" ∨ z = "within" then ps ++ [(nm, z)] else ps).map pairD) ∧ (z = "nest" ∨ z = "within" → isNameL nm = true ∧ nm ∉ names) ∧ H6 a = some (.lst avs) ∧ DpAll K H6 avs (ps.map pairD) ∧ Dr H6 d g c ∧ Up d g H H6, ?_, ?_⟩
    · refine ⟨_, rfl, by show 2 ≤ sizeLine; decide, fun e ne => ?_⟩
      have te := same_upd (o := .lst ((["nest", "within"] : List Str).map V.str)) ne
      have he : (upd H5 e (.lst ((["nest", "within"] : List Str).map V.str))) e = some (.lst ((["nest", "within"] : List Str).map V.str)) := upd_same
      have D6 := D5.same te
      have u6 := u5.trans (Up.of te)
      have hq6 := te _ _ hq5
      have hav6 := te _ _ hav5
      have hdv6 := te.dpAll hdv5
      have hR6 := te _ _ hR
      refine ⟨e, _, rfl, .inl (sl he), rfl, flat_strs _, _, rfl, ?_⟩
      show (if _ = true then _ else _)
      rw [if_neg Bool.false_ne_true, inV_strs]
      show (if _ = true then tSeq _ _ _ _ (upd H5 e (.lst ((["nest", "within"] : List Str).map V.str))) else tNext _ _ (upd H5 e (.lst ((["nest", "within"] : List Str).map V.str))))
      generalize upd H5 e (.lst ((["nest", "within"] : List Str).map V.str)) = H6 at D6 u6 hq6 hav6 hdv6 hR6 ⊢
      clear te he hq5 hav5 hdv5 hR
      refine ite2 (fun h2 => ?_) (fun h2 => ?_)
      · have h2 : z = "nest" ∨ z = "within" := by have := of_decide_eq_true h2; simpa using this
        refine ⟨_, rfl, d, g, c, rfl, D6, fun z1 H7 hnm D7 u7 => ?_⟩
        have hq7 := u7 _ _ hq6 (fun e => hq0n (by rw [e]; simp)) (fun e => hq0n (by rw [e]; simp))
        have hR7 := u7 _ _ hR6 (fun e => hRn (by rw [e]; simp)) (fun e => hRn (by rw [e]; simp))
        have hav7 := u7 _ _ hav6 (fun e => ha (by rw [e]; simp)) (fun e => ha (by rw [e]; simp))
        have hdv7 := u7.dpAll D6 (tup_pairs ps) hdv6
        refine ⟨fun σ H8 => ∃ nm : Str, σ = [some (.ref d), some (.ref pl), some (.ref a), some (.int (deep : Int)), some (.int oft), some (.ref p), some (.str z), some (.ref q0), some (.int more), some (.str nm), some (.ref R), none, none, none, none, none, none, none, none] ∧ Same H7 H8 ∧ isNameL nm = true ∧ nm ∉ names, ?_, ?_⟩
        · refine ⟨_, rfl, _, rfl, R, _, rfl, .inl (sl hR7), rfl, flat_strs names, _, rfl, ?_⟩
          rw [if_neg Bool.false_ne_true, inV_strs]
          refine ite2 (fun _ => ?_) (fun h => ⟨z1, rfl, Same.refl _, hnm, fun hm => h (decide_eq_true hm)⟩)
          refine ⟨by show 10 ≤ sizeLine; decide, fun l nl => ?_⟩
          have s4 := same_upd (o := .lst (yspare.map V.str)) nl
          have hl4 : (upd H7 l (.lst (yspare.map V.str))) l = some (.lst (yspare.map V.str)) := upd_same
          refine ⟨l, rfl, ⟨_, sl hl4⟩, fun L nL => ?_⟩
          have nL : (upd H7 l (.lst (yspare.map V.str))) L = none := nL
          show ∃ W : Nat → Nat → Hp → Prop, (∃ m, W 0 m (upd (upd H7 l (.lst (yspare.map V.str))) L (.lst []))) ∧ _
          generalize upd H7 l (.lst (yspare.map V.str)) = H8 at s4 hl4 nL ⊢
          refine lc_it (walk_list (xs := yspare.map V.str)) (fun i H9 => Same H8 H9 ∧ H9 L = some (.lst (((yspare.take i).filter fun x => decide (x ∉ names)).map V.str))) ⟨same_upd nL, upd_same⟩ (fun i H9 _ g => sl (g.1 _ _ hl4)) ?_ ?_
          · rintro i x H9 HA hi ⟨sm, hL⟩ ⟨rfl, hx⟩
            rw [List.length_map] at hi
            rw [List.getElem?_map, List.getElem?_eq_getElem hi] at hx
            cases hx
            refine ⟨rfl, _, rfl, _, rfl, R, _, rfl, .inl (sl (sm _ _ (s4 _ _ hR7))), rfl, flat_strs names, _, rfl, ?_⟩
            rw [if_pos rfl, inV_strs, ← decide_not]
            have take1 : (yspare.take (i + 1)).filter (fun x => decide (x ∉ names)) = ((yspare.take i).filter fun x => decide (x ∉ names)) ++ (if yspare[i] ∉ names then [yspare[i]] else []) := by
              rw [List.take_add_one, List.getElem?_eq_getElem hi, List.filter_append]
              congr 1
              by_cases hm : yspare[i] ∈ names
              · simp [hm]
              · simp [hm]
            refine ite2 (fun hm => ?_) (fun hm => ?_)
            · have hm := of_decide_eq_true hm
              refine ⟨_, rfl, _, hL, ?_, sm.own nL, ?_⟩
              · rw [List.length_map]
                exact small1000 (Nat.le_trans (List.length_filter_le _ _) (Nat.le_trans (List.length_take_le _ _) (by have : yspare.length = 10 := rfl; omega)))
              · rw [upd_same, take1, if_pos hm, List.map_append]
                rfl
            · refine ⟨sm, ?_⟩
              rw [take1, if_neg (fun h => hm (decide_eq_true h)), List.append_nil]
              exact hL
          · rintro H9 ⟨sm, hL⟩
            rw [List.length_map, List.take_length] at hL
            have some1 : ∃ z1 r, (yspare.filter fun x => decide (x ∉ names)) = z1 :: r := by
              cases e : yspare.filter fun x => decide (x ∉ names) with
              | cons z1 r => exact ⟨z1, r, rfl⟩
              | nil =>
                have all : ∀ x ∈ yspare, x ∈ names := fun x hx => by
                  have := List.filter_eq_nil_iff.mp e x hx
                  simpa using this
                have := pigeon yspare names yspare_nodup all
                have e9 : yspare.length = 10 := rfl
                have e8 : names.length = ps.length := by rw [← eN, List.length_map]
                omega
            obtain ⟨z1, r, e1⟩ := some1
            have hz1 : z1 ∈ yspare.filter fun x => decide (x ∉ names) := by rw [e1]; exact List.mem_cons_self ..
            obtain ⟨m1, m2⟩ := List.mem_filter.mp hz1
            rw [e1] at hL
            exact ⟨L, _, _, .str z1, rfl, rfl, sl hL, atI_nat (j := 0) rfl, z1, rfl, s4.trans sm, yspare_names _ m1, of_decide_eq_true m2⟩
        · rintro σ H8 ⟨nm, rfl, s8, hnm, hnn⟩
          have hq8 := s8 _ _ hq7
          have D8 := D7.same s8
          refine ⟨_, rfl, .inl ⟨rfl, _, sl hq8⟩, _, rfl, _, rfl, by show 2 ≤ sizeLine; decide, fun t nt => ?_⟩
          obtain ⟨s9, d9⟩ := new_tup (K := K) nt (.cons (.str nm) (.cons (.str z) .nil))
          refine ⟨q0, _, _, rfl, rfl, s9 _ _ hq8, ?_, ?_⟩
          · exact small1000 (by have := hps.few; omega)
          have hq9 := s9 _ _ hq8
          refine ⟨nm, avs ++ [.ref t], rfl, upd_same, ?_, fun _ => ⟨hnm, hnn⟩, ?_, ?_, ?_, ?_⟩
          · rw [if_pos h2, List.map_append]
            exact dpAll_keep (fun _ _ h => sqt_setl hq9 h) (tupAll_app (tup_pairs _) (tup_pairs [(nm, z)])) (dpAll_app (s9.dpAll (s8.dpAll hdv7)) (.cons d9 .nil))
          · rw [upd_ne q0a.symm]
            exact s9 _ _ (s8 _ _ hav7)
          · exact dpAll_keep (fun _ _ h => sqt_setl hq9 h) (tup_pairs _) (s9.dpAll (s8.dpAll hdv7))
          · exact (D8.same s9).set (fun e => hq0n (by rw [e]; simp)) (fun e => hq0n (by rw [e]; simp)) (fun e => (D2.apart nq0).2.2 e)
          · exact (((u6.trans u7).trans (Up.of s8)).trans (Up.of s9)).own nqH
      · have h2 : ¬ (z = "nest" ∨ z = "within") := fun h => h2 (decide_eq_true (by simpa using h))
        refine ⟨"", avs, rfl, hq6, ?_, fun h => absurd h h2, hav6, hdv6, D6, u6⟩
        rw [if_neg h2]
        exact hdv6
    rintro σ H6 ⟨nm, vs2, rfl, hq6, hd6, hown, hav6, hdv6, D6, u6⟩
    obtain ⟨⟨kds, hkd⟩, hzl, pcell, plock, plane, poff, pstart⟩ := poss_mem (by rw [ePW]; exact hz)
    -- starts and offs
    refine ⟨fun σ H7 => ∃ (nm : Str) (q1 : Addr) (vs3 : List V) (y11 y12 : Option V), σ = [some (.ref d), some (.ref pl), some (.ref a), some (.int (deep : Int)), some (.int oft), some (.ref p), some (.str z), some (.ref q1), some (.int more), some (.str nm), some (.ref R), y11, y12, none, none, none, none, none, none] ∧ H7 q1 = some (.lst vs3) ∧ (z ≠ "off" → DpAll K H7 vs3 ((aroundP z nm nm ps).map pairD)) ∧ q1 ∉ [d, g, pl] ∧ (z = "nest" ∨ z = "within" → isNameL nm = true ∧ nm ∉ names) ∧ (z = "off" → nm ∈ names) ∧ (z = "start" → (nm, ("nest" : Str)) ∈ ps) ∧ Dr H7 d g c ∧ Up d g H H7, ?_, ?_⟩
    · refine ⟨_, rfl, by show 2 ≤ sizeLine; decide, fun e ne => ?_⟩
      have te := same_upd (o := .lst ((["start", "off"] : List Str).map V.str)) ne
      have he : (upd H6 e (.lst ((["start", "off"] : List Str).map V.str))) e = some (.lst ((["start", "off"] : List Str).map V.str)) := upd_same
      have D7 := D6.same te
      have u7 := u6.trans (Up.of te)
      have hq7 := te _ _ hq6
      have hd7 := te.dpAll hd6
      have hav7 := te _ _ hav6
      have hdv7 := te.dpAll hdv6
      refine ⟨e, _, rfl, .inl (sl he), rfl, flat_strs _, _, rfl, ?_⟩
      show (if _ = true then _ else _)
      rw [if_neg Bool.false_ne_true, inV_strs]
      show (if _ = true then tSeq _ _ _ _ (upd H6 e (.lst ((["start", "off"] : List Str).map V.str))) else tNext _ _ (upd H6 e (.lst ((["start", "off"] : List Str).map V.str))))
      generalize upd H6 e (.lst ((["start", "off"] : List Str).map V.str)) = H7 at D7 u7 hq7 hd7 hav7 hdv7 ⊢
      clear te he hq6 hd6 hav6 hdv6
      refine ite2 (fun h2 => ?_) (fun h2 => ?_)
      · have h2 : z = "start" ∨ z = "off" := by have := of_decide_eq_true h2; simpa using this
        have h3 : ¬ (z = "nest" ∨ z = "within") := by rcases h2 with rfl | rfl <;> decide
        rw [if_neg h3] at hd7
        refine ⟨_, rfl, a, _, rfl, .inl (sl hav7), (avs.length : Int), rfl, by omega, ?_, fun L nL => ?_⟩
        · rw [hl]; have := hps.few; omega
        have LD := D7.apart nL
        refine lc_it walk_range (fun i H8 => Same H7 H8 ∧ H8 L = some (.lst ((homes z ps i).map fun k : Nat => V.int (k : Int)))) ⟨same_upd nL, upd_same⟩ (fun _ _ _ _ => trivial) ?_ ?_
        · rintro i x H9 H8 hi ⟨sm, hL⟩ ⟨rfl, rfl⟩
          have hip : i < ps.length := by omega
          obtain ⟨v, ev, hv⟩ := dp_at hdv7 (i := i) (d := pairD ps[i]) (by rw [List.getElem?_map, List.getElem?_eq_getElem hip]; rfl)
          obtain ⟨t, rfl, ht⟩ := dp_pair (sm.dp hv)
          have e0 : V.int (0 + (i : Int)) = V.int (i : Int) := by rw [Int.zero_add]
          have at2 : atI avs (0 + (i : Int)) = some (.ref t) := by rw [Int.zero_add]; exact atI_nat ev
          have grow : (z = "off" ∨ ps[i].2 = "nest") → ∀ H10 : Hp, H10 = upd H8 L (.lst ((homes z ps i).map (fun k : Nat => V.int (k : Int)) ++ [.int (0 + (i : Int))])) → Same H7 H10 ∧ H10 L = some (.lst ((homes z ps (i + 1)).map fun k : Nat => V.int (k : Int))) := by
            rintro hc _ rfl
            refine ⟨sm.own nL, ?_⟩
            rw [upd_same, e0]
            unfold homes
            rw [List.range_succ, List.filter_append, List.map_append]
            congr 3
            have : hcd z ps i = true := by
              unfold hcd
              rw [List.getElem?_eq_getElem hip]
              simpa using hc
            rw [List.filter_cons_of_pos this]
            rfl
          have few : ((homes z ps i).map fun k : Nat => V.int (k : Int)).length < sizeLine := by
            rw [List.length_map]
            exact small1000 (Nat.le_trans (List.length_filter_le _ _) (by rw [List.length_range]; have := hps.few; omega))
          refine ⟨rfl, _, rfl, rfl, _, rfl, ?_⟩
          rw [es_str]
          refine ite2 (fun e1 => ite2 (fun _ => ⟨_, rfl, _, hL, few, grow (.inl (of_decide_eq_true e1)) _ rfl⟩) (fun h => absurd rfl h)) (fun e1 => ?_)
          refine ⟨_, rfl, _, rfl, a, _, _, .ref t, rfl, rfl, sl (sm _ _ hav7), at2, _, _, _, _, rfl, rfl, ht, atI_nat (j := 1) rfl, rfl, _, rfl, ?_⟩
          rw [es_str]
          refine ite2 (fun e2 => ⟨_, rfl, _, hL, few, grow (.inr (of_decide_eq_true e2)) _ rfl⟩) (fun e2 => ⟨sm, ?_⟩)
          rw [hL]
          unfold homes
          rw [List.range_succ, List.filter_append]
          have : ¬ hcd z ps i = true := by
            unfold hcd
            rw [List.getElem?_eq_getElem hip]
            intro h
            simp only [Option.map_some, Option.some.injEq, Bool.or_eq_true, decide_eq_true_eq] at h
            rcases h with h | h
            · exact e1 (decide_eq_true h)
            · exact e2 (decide_eq_true h)
          rw [List.filter_cons_of_neg this]
          simp
        · rintro H8 ⟨sm, hL⟩
          rw [show ((avs.length : Int)).toNat = ps.length by omega] at hL
          have some1 : 1 ≤ (homes z ps ps.length).length := by
            have mem : ∀ k : Nat, k < ps.length → (z = "off" ∨ (ps[k]?).map (·.2) = some ("nest" : Str)) → 1 ≤ (homes z ps ps.length).length := fun k hk hc => by
              have : k ∈ homes z ps ps.length := List.mem_filter.mpr ⟨List.mem_range.mpr hk, by simpa [hcd] using hc⟩
              exact List.length_pos_of_mem this
            rcases h2 with h2 | h2
            · have := pstart h2
              cases en : nests ps with
              | nil => exact absurd en this
              | cons x xs =>
                have hx : x ∈ nests ps := by rw [en]; exact List.mem_cons_self ..
                unfold nests at hx
                obtain ⟨m1, m2⟩ := List.mem_filter.mp hx
                obtain ⟨k, hk, rfl⟩ := List.mem_iff_getElem.mp m1
                exact mem k hk (.inr (by rw [List.getElem?_eq_getElem hk]; exact congrArg some (of_decide_eq_true m2)))
            · have := poff h2
              exact mem 0 (by simp at this; exact List.length_pos_iff.mpr this) (.inl h2)
          obtain ⟨hmd, ehm, hmem⟩ : ∃ l : List Nat, l = homes z ps ps.length ∧ ∀ k ∈ l, k < ps.length ∧ (z = "off" ∨ (ps[k]?).map (·.2) = some ("nest" : Str)) := ⟨_, rfl, fun k hk => by
            obtain ⟨m1, m2⟩ := List.mem_filter.mp hk
            exact ⟨List.mem_range.mp m1, by simpa [hcd] using m2⟩⟩
          rw [← ehm] at some1 hL
          have few1 : hmd.length ≤ 10 := by rw [ehm]; exact Nat.le_trans (List.length_filter_le _ _) (by rw [List.length_range]; exact hps.few)
          have D8 := D7.same sm
          refine nm_ ?_
          refine ⟨_, rfl, _, rfl, _, rfl, L, _, rfl, .inl (sl hL), d, g, c, ((hmd.map fun k : Nat => V.int (k : Int)).length : Int), rfl, D8, by rw [List.length_map]; omega, by rw [List.length_map]; omega, fun r1 H9 b0 b1 D9 u9 => ?_⟩
          rw [List.length_map] at b1
          obtain ⟨j, rfl⟩ : ∃ j : Nat, r1 = (j : Int) := ⟨r1.toNat, by omega⟩
          have hj : j < hmd.length := by omega
          have hL9 := u9 _ _ hL LD.1 LD.2.1
          refine ⟨L, _, _, .int (hmd[j] : Int), rfl, rfl, sl hL9, atI_nat (by rw [List.getElem?_map, List.getElem?_eq_getElem hj]; rfl), ?_⟩
          obtain ⟨hk, hkz⟩ := hmem _ (List.getElem_mem hj)
          generalize hmd[j] = k1 at hk hkz ⊢
          have hav9 := u9 _ _ (sm _ _ hav7) (fun e => ha (by rw [e]; simp)) (fun e => ha (by rw [e]; simp))
          have hdv9 := u9.dpAll D8 (tup_pairs ps) (sm.dpAll hdv7)
          have hq9 := u9 _ _ (sm _ _ hq7) (fun e => hq0n (by rw [e]; simp)) (fun e => hq0n (by rw [e]; simp))
          have hd9 := u9.dpAll D8 (tup_pairs ps) (sm.dpAll hd7)
          obtain ⟨v, ev, hv⟩ := dp_at hdv9 (i := k1) (d := pairD ps[k1]) (by rw [List.getElem?_map, List.getElem?_eq_getElem hk]; rfl)
          obtain ⟨t, rfl, ht⟩ := dp_pair hv
          refine ⟨_, rfl, _, rfl, a, _, _, .ref t, rfl, rfl, sl hav9, atI_nat ev, _, _, _, _, rfl, rfl, ht, atI_nat (j := 0) rfl, ?_⟩
          refine ⟨_, rfl, _, rfl, _, _, rfl, rfl, _, rfl, q0, _, rfl, sl hq9, fun p1 np1 => ?_⟩
          have sA := same_upd (o := .lst (cutV vs2 none (some ((k1 : Int) + 1)))) np1
          have ec : cutV vs2 none (some ((k1 : Int) + 1)) = vs2.take (k1 + 1) := by
            rw [show ((k1 : Int) + 1) = ((k1 + 1 : Nat) : Int) by omega, cut_to]
          refine ⟨_, _, rfl, nx_ ?_⟩
          refine ⟨ps[k1].1, p1, vs2.take (k1 + 1), some (.ref L), some (.int (k1 : Int)), rfl, ?_, fun hz2 => ?_, ?_, fun e => absurd e h3, fun _ => ?_, fun e => ?_, D9.same sA, ((u7.trans (Up.of sm)).trans u9).trans (Up.of sA)⟩
          · rw [← ec]; exact upd_same
          · have ez : z = "start" := h2.resolve_right hz2
            unfold aroundP
            rw [if_pos ez]
            have ei : (ps.map (·.1)).idxOf ps[k1].1 = k1 := by
              have := idx_nd hps.nd (k := k1) (by rw [List.length_map]; exact hk)
              rw [List.getElem_map] at this
              exact this
            rw [ei, List.map_take]
            exact sA.dpAll (dpAll_take hd9)
          · intro hm
            simp only [List.mem_cons, List.not_mem_nil, or_false] at hm
            have nD := D9.apart np1
            rcases hm with e | e | e
            · exact nD.1 e
            · exact nD.2.1 e
            · rw [e, (Y.up ((u7.trans (Up.of sm)).trans u9)).hpl] at np1; cases np1
          · rw [← eN]; exact List.mem_map.mpr ⟨_, List.getElem_mem hk, rfl⟩
          · have h5 : ps[k1].2 = "nest" := by
              rcases hkz with h | h
              · rw [h] at e; cases e
              · rw [List.getElem?_eq_getElem hk] at h; exact Option.some.inj h
            rw [← h5]
            exact List.getElem_mem hk
      · have h2 : ¬ (z = "start" ∨ z = "off") := fun h => h2 (decide_eq_true (by simpa using h))
        refine ⟨nm, q0, vs2, none, none, rfl, hq7, ?_, hq0n, hown, fun e => absurd (.inr e) h2, fun e => absurd (.inl e) h2, D7, u7⟩
        intro _
        unfold aroundP
        rw [if_neg fun e => h2 (.inl e)]
        exact hd7
    rintro σ H7 ⟨nm, q1, vs3, y11, y12, rfl, hq1, hd3, hq1n, hown, hoff, hhome, D7, u7⟩
    have Y7 := Y.up u7
    obtain ⟨sh, hsh, eks⟩ := shape_of hkd
    have h3 : sh.length ≤ 3 := (shape_lets _ (shape_mem hsh)).2
    have hps' : z ≠ "off" → PsOk (aroundP z nm nm ps) := fun _ => by
      unfold aroundP
      split
      · exact hps.sub (List.take_sublist _ _)
      · split
        · rename_i h1 h2
          obtain ⟨o1, o2⟩ := hown h2
          rw [← eN] at o2
          refine ⟨fun q hq => ?_, fun q hq => ?_, ?_, by rw [List.length_append, List.length_singleton]; omega⟩
          · rcases List.mem_append.mp hq with hq | hq
            · exact hps.names q hq
            · rw [List.mem_singleton.mp hq]; exact o1
          · rcases List.mem_append.mp hq with hq | hq
            · exact hps.words q hq
            · rw [List.mem_singleton.mp hq]; exact h2
          · rw [List.map_append, List.nodup_append]
            refine ⟨hps.nd, by simp, fun a ha b hb e => o2 ?_⟩
            have : b = nm := by simpa using hb
            rw [← this, ← e]; exact ha
        · exact hps
    have hlen' : (aroundP z nm nm ps).length ≤ deep + 1 := by
      unfold aroundP
      split
      · exact Nat.le_trans (List.length_take_le' ..) (by omega)
      · split
        · rw [List.length_append, List.length_singleton]; omega
        · omega
    have sp0 : (z = "nest" ∨ z = "within" ∨ z = "start" ∨ z = "off") → isPartD (cs.map (·.1)) ls (hs.map (·.1)) ps (kindL z 115) (.str nm) = true ∧ Low nm ∧ kindL z 115 ≠ "body" ∧ wtD (.str nm) ≤ 130 := fun h => by
      rcases h with e | e | e | e
      · obtain ⟨o1, o2⟩ := hown (.inl e)
        rw [← eN] at o2
        subst e
        exact ⟨part_sc o1 o2, Low.of o1, by decide, Nat.le_trans (wt_name o1) (by decide)⟩
      · obtain ⟨o1, o2⟩ := hown (.inr e)
        rw [← eN] at o2
        subst e
        exact ⟨part_sc o1 o2, Low.of o1, by decide, Nat.le_trans (wt_name o1) (by decide)⟩
      · have o := hhome e
        subst e
        exact ⟨part_hm hps o, Low.of (hps.names _ o), by decide, Nat.le_trans (wt_name (hps.names _ o)) (by decide)⟩
      · have o := hoff e
        rw [← eN] at o
        obtain ⟨q2, hq2, eq2⟩ := List.mem_map.mp o
        subst e
        exact ⟨part_of hps o, Low.of (eq2 ▸ hps.names _ hq2), by decide, Nat.le_trans (wt_name (eq2 ▸ hps.names _ hq2)) (by decide)⟩
    refine ⟨_, rfl, by show 1 ≤ sizeLine; decide, fun rp nrp => ?_⟩
    have s8 := same_upd (o := .lst [V.str z]) nrp
    have hrp8 : (upd H7 rp (.lst [V.str z])) rp = some (.lst [V.str z]) := upd_same
    have rpc := (D7.apart nrp).2.2
    have hrpn : rp ∉ [d, g, pl] := by
      intro hm
      simp only [List.mem_cons, List.not_mem_nil, or_false] at hm
      have nD := D7.apart nrp
      rcases hm with e | e | e
      · exact nD.1 e
      · exact nD.2.1 e
      · rw [e, Y7.hpl] at nrp; cases nrp
    refine ⟨_, rfl, z, sh, rfl, hsh, fun H8 s8' => ⟨sh, rfl, for_it walk_str (fun i σ H9 => ∃ (y14 y15 : Option V) (vs : List V) (ds : List PyData) (m k1 : Nat), σ = [some (.ref d), some (.ref pl), some (.ref a), some (.int (deep : Int)), some (.int oft), some (.ref p), some (.str z), some (.ref q1), some (.int more), some (.str nm), some (.ref R), y11, y12, some (.ref rp), y14, y15, none, none, none] ∧ LrI K H7 H9 d g c pl C Lk Ch W rp cs ls hs ps (aroundP z nm nm ps) deep more nm z sh i vs ds m k1 ∧ m + k1 = k) ?_ (fun _ _ _ _ _ => trivial) ?_ ?_⟩⟩
    · have s9 := s8.trans s8'
      exact ⟨none, none, [], [], 0, k, rfl, ⟨s8' _ _ hrp8, .nil, .nil, s9 _ _ Y7.hpl, D7.same s9, But.of s9⟩, by omega⟩
    · rintro i σ x H9 H10 hi ⟨y14, y15, vs, ds, m, k1, rfl, I, hmk⟩ ⟨rfl, c0, hc, rfl⟩
      have YI := I.play Y7
      obtain ⟨l1, l2, l3, l4, l5, l6⟩ := letter_of hsh hc
      have hin := letter_in hsh hc
      simp only [List.mem_cons, List.not_mem_nil, or_false] at hin
      rcases hin with rfl | rfl | rfl | rfl | rfl | rfl | rfl | rfl
      · -- n
        refine ⟨_, rfl, rfl, _, rfl, ite2 (fun e => absurd e (by decide)) (fun _ => ?_)⟩
        refine ⟨_, rfl, rfl, _, rfl, ite2 (fun e => absurd e (by decide)) (fun _ => ?_)⟩
        refine ⟨_, rfl, rfl, _, rfl, ite2 (fun _ => ?_) (fun e => absurd rfl e)⟩
        refine ⟨_, rfl, .inl ⟨rfl, _, sl I.hrp⟩, _, rfl, pl, _, rfl, DGet.k (k := Sum.inr "words") I.hpl, _, rfl, d, g, c, 4, rfl, I.D, by decide, by decide, fun r H11 r0 r1 D11 u11 => ?_⟩
        obtain ⟨j, rfl⟩ : ∃ j : Nat, r = (j : Int) := ⟨r.toNat, by omega⟩
        have hj : j < ws.length := by rw [N.four]; omega
        have hn := N.words _ (List.getElem_mem hj)
        refine ⟨W, _, _, .str ws[j], rfl, rfl, sl (YI.up u11).hW, atI_nat (by rw [List.getElem?_map, List.getElem?_eq_getElem hj]; rfl), ?_⟩
        obtain ⟨h1, I2⟩ := I.step Y7 nrp hrpn rpc hc (up_but3 u11) D11 (YI.up u11).hpl (.str ws[j]) (PartOk.leaf (kind := "name") (part_name hn) (Good.str (Low.of hn) _) rfl (Nat.le_trans (wt_name hn) (by decide)) (by decide) (fun h => by rcases h with h | h | h <;> exact absurd h (by decide)))
        refine ⟨rp, _, _, rfl, rfl, h1, I.few h3, _, _, _, _, _, _, rfl, I2, by omega⟩
      · -- c
        refine ⟨_, rfl, rfl, _, rfl, ite2 (fun e => absurd e (by decide)) (fun _ => ?_)⟩
        refine ⟨_, rfl, rfl, _, rfl, ite2 (fun _ => ?_) (fun e => absurd rfl e)⟩
        refine ⟨_, rfl, .inl ⟨rfl, _, sl I.hrp⟩, _, rfl, _, rfl, d, g, c, pl, C, Lk, Ch, W, cs, ls, hs, ws, k1, rfl, I.D, YI, N, fun v x H11 hv hcx gx tx wx D11 u11 => ?_⟩
        obtain ⟨h1, I2⟩ := I.step Y7 nrp hrpn rpc hc (up_but3 u11) D11 (YI.up u11).hpl hv (PartOk.leaf (kind := "calc") hcx gx tx (Nat.le_trans wx (by decide)) (by decide) (fun h => by rcases h with h | h | h <;> exact absurd h (by decide)))
        refine ⟨rp, _, _, rfl, rfl, h1, I.few h3, _, _, _, _, _, _, rfl, I2, by omega⟩
      · -- x
        refine ⟨_, rfl, rfl, _, rfl, ite2 (fun e => absurd e (by decide)) (fun _ => ?_)⟩
        refine ⟨_, rfl, rfl, _, rfl, ite2 (fun e => absurd e (by decide)) (fun _ => ?_)⟩
        refine ⟨_, rfl, rfl, _, rfl, ite2 (fun e => absurd e (by decide)) (fun _ => ?_)⟩
        refine ⟨_, rfl, rfl, _, rfl, ite2 (fun e => absurd e (by decide)) (fun _ => ?_)⟩
        refine ⟨_, rfl, 120, "xlv", rfl, rfl, _, rfl, ite2 (fun _ => ?_) (fun e => absurd e (by decide +kernel))⟩
        refine ⟨_, rfl, fun e ne => ⟨upd_same, dz xlvD, rfl, by show 3 ≤ 15; decide, ?_⟩⟩
        have te : Same H10 (upd (upd H10 e (.dK [])) e (.dK (mergeK [] (dz xlvD)))) := (same_upd ne).own ne
        have he : (upd (upd H10 e (.dK [])) e (.dK (mergeK [] (dz xlvD)))) e = some (.dK (dz xlvD)) := upd_same
        show ∃ _, _
        generalize upd (upd H10 e (.dK [])) e (.dK (mergeK [] (dz xlvD))) = H11 at te he ⊢
        have YB := YI.same te
        have DB := I.D.same te
        have hrpB := te _ _ I.hrp
        refine ⟨_, rfl, e, .str "cells", rfl, xlv_x he, pl, _, rfl, DGet.k (k := Sum.inr "cells") YB.hpl, ?_⟩
        refine .inr ⟨C, dI cs, rfl, .inl YB.hC, fun lp nlp => ?_⟩
        have ek : (dI cs).map (fun kv => kV kv.1) = ((cs.map (·.1)).map V.str) := by unfold dI; rw [List.map_map, List.map_map]; rfl
        rw [ek]
        have tl := same_upd (o := .lst ((cs.map (·.1)).map V.str)) nlp
        have hlp : (upd H11 lp (.lst ((cs.map (·.1)).map V.str))) lp = some (.lst ((cs.map (·.1)).map V.str)) := upd_same
        have lD := DB.apart nlp
        have YC := YB.same tl
        have DC := DB.same tl
        have hrpC := tl _ _ hrpB
        have tBC := te.trans tl
        show gName 15 _ _ (upd H11 lp (.lst ((cs.map (·.1)).map V.str))) _
        refine nm_ ?_
        generalize upd H11 lp (.lst ((cs.map (·.1)).map V.str)) = H12 at tl hlp YC DC hrpC tBC ⊢
        have zl : ((cs.map (·.1)) : List Str).length ≤ 4 := by have := N.cells.few; simpa using this
        have zp : 1 ≤ ((cs.map (·.1)) : List Str).length := by have h9 := pcell (l3 rfl); simp only [Bool.not_eq_true', decide_eq_false_iff_not] at h9; (try simp only [List.length_map]); omega
        have zn : ∀ y ∈ ((cs.map (·.1)) : List Str), isNameL y = true := fun y hy => by obtain ⟨q2, hq2, rfl⟩ := List.mem_map.mp hy; exact N.cells.names _ hq2
        refine ⟨_, rfl, .inl ⟨rfl, _, sl hrpC⟩, _, rfl, _, rfl, _, rfl, lp, _, rfl, .inl (sl hlp), d, g, c, ((((cs.map (·.1)).map V.str)).length : Int), rfl, DC, by rw [List.length_map]; omega, by rw [List.length_map]; omega, fun r H13 r0 r1 D13 u13 => ?_⟩
        rw [List.length_map] at r1
        obtain ⟨j, rfl⟩ : ∃ j : Nat, r = (j : Int) := ⟨r.toNat, by omega⟩
        have hj : j < ((cs.map (·.1)) : List Str).length := by omega
        have hm4 : ((cs.map (·.1)) : List Str)[j] ∈ ((cs.map (·.1)) : List Str) := List.getElem_mem hj
        have hn := zn _ hm4
        refine ⟨lp, _, _, .str ((cs.map (·.1)) : List Str)[j], rfl, rfl, sl (u13 _ _ hlp lD.1 lD.2.1), atI_nat (by rw [List.getElem?_map, List.getElem?_eq_getElem hj]; rfl), ?_⟩
        obtain ⟨h1, I2⟩ := I.step Y7 nrp hrpn rpc hc ((But.of tBC).trans (up_but3 u13)) D13 (YC.up u13).hpl (.str ((cs.map (·.1)) : List Str)[j]) (PartOk.leaf (kind := "cell") (part_cell hn hm4) (Good.str (Low.of hn) _) rfl (Nat.le_trans (wt_name hn) (by decide)) (by decide) (fun h => by rcases h with h | h | h <;> exact absurd h (by decide)))
        refine ⟨rp, _, _, rfl, rfl, h1, I.few h3, _, _, _, _, _, _, rfl, I2, by omega⟩
      · -- l
        refine ⟨_, rfl, rfl, _, rfl, ite2 (fun e => absurd e (by decide)) (fun _ => ?_)⟩
        refine ⟨_, rfl, rfl, _, rfl, ite2 (fun e => absurd e (by decide)) (fun _ => ?_)⟩
        refine ⟨_, rfl, rfl, _, rfl, ite2 (fun e => absurd e (by decide)) (fun _ => ?_)⟩
        refine ⟨_, rfl, rfl, _, rfl, ite2 (fun e => absurd e (by decide)) (fun _ => ?_)⟩
        refine ⟨_, rfl, 108, "xlv", rfl, rfl, _, rfl, ite2 (fun _ => ?_) (fun e => absurd e (by decide +kernel))⟩
        refine ⟨_, rfl, fun e ne => ⟨upd_same, dz xlvD, rfl, by show 3 ≤ 15; decide, ?_⟩⟩
        have te : Same H10 (upd (upd H10 e (.dK [])) e (.dK (mergeK [] (dz xlvD)))) := (same_upd ne).own ne
        have he : (upd (upd H10 e (.dK [])) e (.dK (mergeK [] (dz xlvD)))) e = some (.dK (dz xlvD)) := upd_same
        show ∃ _, _
        generalize upd (upd H10 e (.dK [])) e (.dK (mergeK [] (dz xlvD))) = H11 at te he ⊢
        have YB := YI.same te
        have DB := I.D.same te
        have hrpB := te _ _ I.hrp
        refine ⟨_, rfl, e, .str "locks", rfl, xlv_l he, pl, _, rfl, DGet.k (k := Sum.inr "locks") YB.hpl, ?_⟩
        refine .inl ⟨Lk, _, rfl, .inl (sl YB.hL), fun lp nlp => ?_⟩
        have tl := same_upd (o := .lst ((ls).map V.str)) nlp
        have hlp : (upd H11 lp (.lst ((ls).map V.str))) lp = some (.lst ((ls).map V.str)) := upd_same
        have lD := DB.apart nlp
        have YC := YB.same tl
        have DC := DB.same tl
        have hrpC := tl _ _ hrpB
        have tBC := te.trans tl
        show gName 15 _ _ (upd H11 lp (.lst ((ls).map V.str))) _
        refine nm_ ?_
        generalize upd H11 lp (.lst ((ls).map V.str)) = H12 at tl hlp YC DC hrpC tBC ⊢
        have zl : ((ls) : List Str).length ≤ 4 := by have := N.lfew; simpa using this
        have zp : 1 ≤ ((ls) : List Str).length := by have h9 := plock (l4 rfl); simp only [Bool.not_eq_true', decide_eq_false_iff_not] at h9; (try simp only [List.length_map]); omega
        have zn : ∀ y ∈ ((ls) : List Str), isNameL y = true := N.locks
        refine ⟨_, rfl, .inl ⟨rfl, _, sl hrpC⟩, _, rfl, _, rfl, _, rfl, lp, _, rfl, .inl (sl hlp), d, g, c, ((((ls).map V.str)).length : Int), rfl, DC, by rw [List.length_map]; omega, by rw [List.length_map]; omega, fun r H13 r0 r1 D13 u13 => ?_⟩
        rw [List.length_map] at r1
        obtain ⟨j, rfl⟩ : ∃ j : Nat, r = (j : Int) := ⟨r.toNat, by omega⟩
        have hj : j < ((ls) : List Str).length := by omega
        have hm4 : ((ls) : List Str)[j] ∈ ((ls) : List Str) := List.getElem_mem hj
        have hn := zn _ hm4
        refine ⟨lp, _, _, .str ((ls) : List Str)[j], rfl, rfl, sl (u13 _ _ hlp lD.1 lD.2.1), atI_nat (by rw [List.getElem?_map, List.getElem?_eq_getElem hj]; rfl), ?_⟩
        obtain ⟨h1, I2⟩ := I.step Y7 nrp hrpn rpc hc ((But.of tBC).trans (up_but3 u13)) D13 (YC.up u13).hpl (.str ((ls) : List Str)[j]) (PartOk.leaf (kind := "lock") (part_lock hn hm4) (Good.str (Low.of hn) _) rfl (Nat.le_trans (wt_name hn) (by decide)) (by decide) (fun h => by rcases h with h | h | h <;> exact absurd h (by decide)))
        refine ⟨rp, _, _, rfl, rfl, h1, I.few h3, _, _, _, _, _, _, rfl, I2, by omega⟩
      · -- v
        refine ⟨_, rfl, rfl, _, rfl, ite2 (fun e => absurd e (by decide)) (fun _ => ?_)⟩
        refine ⟨_, rfl, rfl, _, rfl, ite2 (fun e => absurd e (by decide)) (fun _ => ?_)⟩
        refine ⟨_, rfl, rfl, _, rfl, ite2 (fun e => absurd e (by decide)) (fun _ => ?_)⟩
        refine ⟨_, rfl, rfl, _, rfl, ite2 (fun e => absurd e (by decide)) (fun _ => ?_)⟩
        refine ⟨_, rfl, 118, "xlv", rfl, rfl, _, rfl, ite2 (fun _ => ?_) (fun e => absurd e (by decide +kernel))⟩
        refine ⟨_, rfl, fun e ne => ⟨upd_same, dz xlvD, rfl, by show 3 ≤ 15; decide, ?_⟩⟩
        have te : Same H10 (upd (upd H10 e (.dK [])) e (.dK (mergeK [] (dz xlvD)))) := (same_upd ne).own ne
        have he : (upd (upd H10 e (.dK [])) e (.dK (mergeK [] (dz xlvD)))) e = some (.dK (dz xlvD)) := upd_same
        show ∃ _, _
        generalize upd (upd H10 e (.dK [])) e (.dK (mergeK [] (dz xlvD))) = H11 at te he ⊢
        have YB := YI.same te
        have DB := I.D.same te
        have hrpB := te _ _ I.hrp
        refine ⟨_, rfl, e, .str "channels", rfl, xlv_v he, pl, _, rfl, DGet.k (k := Sum.inr "channels") YB.hpl, ?_⟩
        refine .inr ⟨Ch, dI hs, rfl, .inl YB.hCh, fun lp nlp => ?_⟩
        have ek : (dI hs).map (fun kv => kV kv.1) = ((hs.map (·.1)).map V.str) := by unfold dI; rw [List.map_map, List.map_map]; rfl
        rw [ek]
        have tl := same_upd (o := .lst ((hs.map (·.1)).map V.str)) nlp
        have hlp : (upd H11 lp (.lst ((hs.map (·.1)).map V.str))) lp = some (.lst ((hs.map (·.1)).map V.str)) := upd_same
        have lD := DB.apart nlp
        have YC := YB.same tl
        have DC := DB.same tl
        have hrpC := tl _ _ hrpB
        have tBC := te.trans tl
        show gName 15 _ _ (upd H11 lp (.lst ((hs.map (·.1)).map V.str))) _
        refine nm_ ?_
        generalize upd H11 lp (.lst ((hs.map (·.1)).map V.str)) = H12 at tl hlp YC DC hrpC tBC ⊢
        have zl : ((hs.map (·.1)) : List Str).length ≤ 4 := by have := N.lanes.few; simpa using this
        have zp : 1 ≤ ((hs.map (·.1)) : List Str).length := by have h9 := plane (l5 rfl); simp only [Bool.not_eq_true', decide_eq_false_iff_not] at h9; (try simp only [List.length_map]); omega
        have zn : ∀ y ∈ ((hs.map (·.1)) : List Str), isNameL y = true := fun y hy => by obtain ⟨q2, hq2, rfl⟩ := List.mem_map.mp hy; exact N.lanes.names _ hq2
        refine ⟨_, rfl, .inl ⟨rfl, _, sl hrpC⟩, _, rfl, _, rfl, _, rfl, lp, _, rfl, .inl (sl hlp), d, g, c, ((((hs.map (·.1)).map V.str)).length : Int), rfl, DC, by rw [List.length_map]; omega, by rw [List.length_map]; omega, fun r H13 r0 r1 D13 u13 => ?_⟩
        rw [List.length_map] at r1
        obtain ⟨j, rfl⟩ : ∃ j : Nat, r = (j : Int) := ⟨r.toNat, by omega⟩
        have hj : j < ((hs.map (·.1)) : List Str).length := by omega
        have hm4 : ((hs.map (·.1)) : List Str)[j] ∈ ((hs.map (·.1)) : List Str) := List.getElem_mem hj
        have hn := zn _ hm4
        refine ⟨lp, _, _, .str ((hs.map (·.1)) : List Str)[j], rfl, rfl, sl (u13 _ _ hlp lD.1 lD.2.1), atI_nat (by rw [List.getElem?_map, List.getElem?_eq_getElem hj]; rfl), ?_⟩
        obtain ⟨h1, I2⟩ := I.step Y7 nrp hrpn rpc hc ((But.of tBC).trans (up_but3 u13)) D13 (YC.up u13).hpl (.str ((hs.map (·.1)) : List Str)[j]) (PartOk.leaf (kind := "channel") (part_lane hn hm4) (Good.str (Low.of hn) _) rfl (Nat.le_trans (wt_name hn) (by decide)) (by decide) (fun h => by rcases h with h | h | h <;> exact absurd h (by decide)))
        refine ⟨rp, _, _, rfl, rfl, h1, I.few h3, _, _, _, _, _, _, rfl, I2, by omega⟩
      · -- b
        refine ⟨_, rfl, rfl, _, rfl, ite2 (fun _ => ?_) (fun e => absurd rfl e)⟩
        have hzo2 := l1 rfl
        refine ⟨_, rfl, .inl ⟨rfl, _, sl I.hrp⟩, _, rfl, _, rfl, _, rfl, _, rfl, _, _, rfl, rfl, _, rfl, d, g, c, pl, C, Lk, Ch, W, q1, cs, ls, hs, ws, k1, aroundP z nm nm ps, deep + 1, more, rfl, by omega, I.D, YI, N, Al.but ⟨_, hq1, hd3 hzo2⟩ D7 Y7 I.but hq1n, hps' hzo2, hlen', hq1n, hm3, fun v rows H11 m2 k2 hv hrows hmk2 hl3 D11 Y11 u11 => ?_⟩
        obtain ⟨h1, I2⟩ := I.step Y7 nrp hrpn rpc hc u11 D11 Y11.hpl hv (m' := m2) ⟨part_tup, (hrows.good1 (by omega)).mono (by omega), hrows.tup, fun _ => ⟨rows, rfl, hrows⟩, fun h => absurd rfl h, (fun h : ("body" : Str) = "scope" ∨ ("body" : Str) = "home" ∨ ("body" : Str) = "entered" => by rcases h with h | h | h <;> exact absurd h (by decide)), (by show 4 + wtAll rows ≤ 130 + 410 * m2; have := hrows.wt; omega)⟩
        refine ⟨rp, _, _, rfl, rfl, h1, I.few h3, _, _, _, _, _, _, rfl, I2, by omega⟩
      · -- s
        refine ⟨_, rfl, rfl, _, rfl, ite2 (fun e => absurd e (by decide)) (fun _ => ?_)⟩
        refine ⟨_, rfl, rfl, _, rfl, ite2 (fun e => absurd e (by decide)) (fun _ => ?_)⟩
        refine ⟨_, rfl, rfl, _, rfl, ite2 (fun e => absurd e (by decide)) (fun _ => ?_)⟩
        refine ⟨_, rfl, rfl, _, rfl, ite2 (fun _ => ?_) (fun e => absurd rfl e)⟩
        obtain ⟨sp1, sp2, sp3, sp4⟩ := sp0 (l2 rfl)
        obtain ⟨h1, I2⟩ := I.step Y7 nrp hrpn rpc hc (But.refl _) I.D I.hpl (.str nm) (m' := 0) (PartOk.leaf (d := .str nm) sp1 (Good.str sp2 _) rfl sp4 sp3 (fun _ => rfl))
        refine ⟨_, rfl, .inl ⟨rfl, _, sl I.hrp⟩, _, rfl, ?_⟩
        refine ⟨rp, _, _, rfl, rfl, h1, I.few h3, _, _, _, _, _, _, rfl, I2, by omega⟩
      · -- t
        refine ⟨_, rfl, rfl, _, rfl, ite2 (fun e => absurd e (by decide)) (fun _ => ?_)⟩
        refine ⟨_, rfl, rfl, _, rfl, ite2 (fun e => absurd e (by decide)) (fun _ => ?_)⟩
        refine ⟨_, rfl, rfl, _, rfl, ite2 (fun e => absurd e (by decide)) (fun _ => ?_)⟩
        refine ⟨_, rfl, rfl, _, rfl, ite2 (fun e => absurd e (by decide)) (fun _ => ?_)⟩
        refine ⟨_, rfl, 116, "xlv", rfl, rfl, _, rfl, ite2 (fun e => absurd e (by decide +kernel)) (fun _ => ?_)⟩
        refine ⟨_, rfl, .inl ⟨rfl, _, sl I.hrp⟩, fun e ne => ?_⟩
        have te : Same H10 (upd H10 e (.dK [])) := same_upd ne
        have he : (upd H10 e (.dK [])) e = some (.dK []) := upd_same
        have eD := I.D.apart ne
        have DB := I.D.same te
        show tPairs _ _ (upd H10 e (.dK [])) _
        generalize upd H10 e (.dK []) = H11 at te he DB ⊢
        refine ⟨_, rfl, d, g, c, 10, rfl, DB, by decide, by decide, fun r1 H12 a0 a1 D12 u12 => ?_⟩
        refine ⟨_, rfl, d, g, c, 9, rfl, D12, by decide, by decide, fun r2 H13 b0 b1 D13 u13 => ⟨_, _, rfl, rfl, ?_⟩⟩
        have he13 := u13 _ _ (u12 _ _ he eD.1 eD.2.1) eD.1 eD.2.1
        refine ⟨he13, [(Sum.inr "rest", .int r1), (Sum.inr "within", .int (1 + r2))], rfl, by show 2 ≤ 15; decide, ?_⟩
        have uE : Up d g H10 (upd H13 e (.dK (mergeK [] [(Sum.inr "rest", .int r1), (Sum.inr "within", .int (1 + r2))]))) := (((Up.of te).trans u12).trans u13).own ne
        have heE : (upd H13 e (.dK (mergeK [] [(Sum.inr "rest", .int r1), (Sum.inr "within", .int (1 + r2))]))) e = some (.dK [(Sum.inr "rest", .int r1), (Sum.inr "within", .int (1 + r2))]) := upd_same
        have DE := D13.set (o := .dK (mergeK [] [(Sum.inr "rest", .int r1), (Sum.inr "within", .int (1 + r2))])) eD.1 eD.2.1 eD.2.2
        show ∃ _, _
        generalize upd H13 e (.dK (mergeK [] [(Sum.inr "rest", .int r1), (Sum.inr "within", .int (1 + r2))])) = H14 at uE heE DE ⊢
        refine ⟨e, rfl, .inl ⟨_, .inl heE⟩, _, rfl, _, rfl, d, g, c, 4, rfl, DE, by decide, by decide, fun r3 H15 c0 c1 D15 u15 => ?_⟩
        have he15 := u15 _ _ heE eD.1 eD.2.1
        have hval : ∃ iv : Int, (valV ([(Sum.inr "rest", .int r1), (Sum.inr "within", .int (1 + r2))] : List (Key × V)) (Sum.inr z)).getD (.int r3) = .int iv ∧ isPartD (cs.map (·.1)) ls (hs.map (·.1)) ps (kindL z 116) (.int iv) = true ∧ kindL z 116 ≠ "body" ∧ ¬ (kindL z 116 = "scope" ∨ kindL z 116 = "home" ∨ kindL z 116 = "entered") ∧ wtD (.int iv) ≤ 130 := by
          rcases l6 rfl with e6 | e6 | e6
          · subst e6
            exact ⟨r1, rfl, part_rng (kind := "rest") (lo := 0) (hi := 9) (by decide +kernel) (by decide) (by decide) a0 (by omega), by decide, by decide, by rw [wt_int (by omega)]; decide⟩
          · subst e6
            exact ⟨1 + r2, rfl, part_rng (kind := "span") (lo := 1) (hi := 9) (by decide +kernel) (by decide) (by decide) (by omega) (by omega), by decide, by decide, by rw [wt_int (by omega)]; decide⟩
          · subst e6
            exact ⟨r3, rfl, part_rng (kind := "times") (lo := 0) (hi := 3) (by decide +kernel) (by decide) (by decide) c0 (by omega), by decide, by decide, by rw [wt_int (by omega)]; decide⟩
        obtain ⟨iv, ev, p1, p2, p3, p4⟩ := hval
        refine ⟨_, DGet.k (k := Sum.inr z) he15, ?_⟩
        rw [ev]
        obtain ⟨h1, I2⟩ := I.step Y7 nrp hrpn rpc hc (up_but3 (uE.trans u15)) D15 ((YI.up (uE.trans u15))).hpl (.int iv) (PartOk.leaf p1 (Good.int _ _) rfl p4 p2 (fun h => absurd h p3))
        refine ⟨rp, _, _, rfl, rfl, h1, I.few h3, _, _, _, _, _, _, rfl, I2, by omega⟩
    · rintro σ H9 ⟨y14, y15, vs, ds, m, k1, rfl, I, hmk⟩
      have hpar := I.parts
      rw [show sh.cps.size = sh.cps.toList.length by simp, List.take_length, eks] at hpar
      refine ⟨_, rfl, rp, _, rfl, .inl ⟨sl I.hrp, fun t nt => ?_⟩⟩
      obtain ⟨st, dt⟩ := new_tup (K := K) nt (.cons (.str z) I.hds)
      refine q _ (.tuple (.str z :: ds)) _ m k1 dt ?_ hmk (I.D.same st) ((I.play Y7).same st) (((up_but3 u7).trans I.but).trans (But.of st))
      exact row_done hkd hzl (kinds_word hkd) hpar (ar_of hkd hpar.len fun q2 hq2 => (hpar.each q2 hq2).2.2.2) (by rw [← emo]; rfl) hm3 (by omega)
end
end TP
namespace TP
open PySem PySem.Spec PyProof.Rows L2 HX HB HG HU HH HD HS HV HQ HK HN TL
/-! ### a body -/
section
variable {P : Program} {w : World} {K : PySem.W.Frag} {mg : Str → Option Value} {base : Heap}
theorem ok_lbody1 (T : Tp K w mg) (r : Nat) (ih : FnOk P w K mg base CX0 (2 * r + 4) T.f_lrow T.fd_lrow ["_law_draw", "_law_play", "_law_around", "_law_deep", "_law_oftens"] (spR (spLr K) r)) : FnOk P w K mg base CX0 (2 * r + 5) T.f_lbody T.fd_lbody ["_law_draw", "_law_play", "_law_around", "_law_deep", "_law_oftens"] (spLb K r) := by
  refine T.D_lbody.F.ok sc_lbody (fun vs H Q E h => ?_) (fun cdv A outer s H vs Q E hr h => ?_)
  · obtain ⟨d, g, c, pl, C, L, Ch, W, a, cs, ls, hs, ws, k, ps, deep, oft, rfl, _⟩ := h
    rfl
  · obtain ⟨d, g, c, pl, C, Lk, Ch, W, a, cs, ls, hs, ws, k, ps, deep, oft, rfl, hdr, D, Y, N, hal, hps, hpl, ha, ho, q⟩ := h
    have hu := hu_of hr
    refine ⟨_, (pss_cons (ps_set (i := 5) sc_lbody.nd rfl (.inl rfl) (pe_lst pa_nil))
  (pss_cons (ps_for PassesOwn.never rfl (pi_range1 (by rfl) T.range (pa_cons (pcall T.D_next (ok_next T) (hr.mono (by omega)) (by rfl) (pa_cons (pv 0) (pa_cons (pe_ix ix_list (pe_lst (pa_cons pe_int (pa_cons pe_int (pa_cons pe_int pa_nil)))) (pe_op op_add (pe_callTy call_int1 (by rfl) T.int (by decide +kernel) (pa_cons (pe_cmpR op_gt (pv 3) pe_int (nomark _)) pa_nil)) (pe_callTy call_int1 (by rfl) T.int (by decide +kernel) (pa_cons (pe_cmpR op_gt (pv 3) pe_int (nomark _)) pa_nil))) (fun _ _ => rfl)) pa_nil))) pa_nil)) (pg_name (i := 6) sc_lbody.nd rfl (.inl rfl))
  (pss_one (ps_if (pt_cmpR op_gt (pe_dget hu (pv 1) pe_str (fun _ _ => rfl)) pe_int (nomark _))
  (pss_cons (ps_dput hu (pv 1) pe_str (pe_op op_sub (pe_dget hu (pv 1) pe_str (fun _ _ => rfl)) pe_int) rfl)
  (pss_one (ps_expr (pe_bm PySem.F.plainAttrs_list PySem.F.slot_list_append PySem.F.type_list_append mt_append (pv 5) (pa_cons (pcall T.D_lrow ih (hr.mono (by omega)) (by rfl) (pa_cons (pv 0) (pa_cons (pv 1) (pa_cons (pv 2) (pa_cons (pv 3) (pa_cons (pv 4) pa_nil)))))) pa_nil)))))
  pss_nil)))
  (pss_one (ps_ret (pe_callTy call_tuple_of (by rfl) T.tuple (by decide +kernel) (pa_cons (pv 5) pa_nil)))))), ?_⟩
    refine ⟨Nat.zero_le _, fun rp nrp => ?_⟩
    have s1 := same_upd (o := .lst []) nrp
    have hrp1 : (upd H rp (.lst [])) rp = some (.lst []) := upd_same
    have rD := D.apart nrp
    have rpc := rD.2.2
    have hrpn : rp ∉ [d, g, pl] := by
      intro hm
      simp only [List.mem_cons, List.not_mem_nil, or_false] at hm
      rcases hm with e | e | e
      · exact rD.1 e
      · exact rD.2.1 e
      · rw [e, Y.hpl] at nrp; cases nrp
    have D1 := D.same s1
    show tSeq _ _ _ _ (upd H rp (.lst []))
    generalize upd H rp (.lst []) = H1 at s1 hrp1 D1 ⊢
    refine ⟨_, rfl, by show 3 ≤ sizeLine; decide, fun l nl => ?_⟩
    have nl' : H1 l = none := nl
    have s2 := same_upd (o := .lst [V.int 4, V.int 2, V.int 1]) nl'
    have hl2 : (upd H1 l (.lst [V.int 4, V.int 2, V.int 1])) l = some (.lst [V.int 4, V.int 2, V.int 1]) := upd_same
    obtain ⟨sz, esz, z1, z4, z9⟩ : ∃ sz : Int, atI [V.int 4, V.int 2, V.int 1] ((if decide ((2 : Int) < (deep : Int)) = true then (1 : Int) else 0) + (if decide ((9 : Int) < (deep : Int)) = true then (1 : Int) else 0)) = some (.int sz) ∧ 1 ≤ sz ∧ sz ≤ 4 ∧ (r = 0 → sz = 1) := by
      by_cases h2 : 2 < deep
      · by_cases h9 : 9 < deep
        · refine ⟨1, ?_, by decide, by decide, fun _ => rfl⟩
          rw [if_pos (decide_eq_true (by omega)), if_pos (decide_eq_true (by omega))]
          rfl
        · refine ⟨2, ?_, by decide, by decide, fun e => by omega⟩
          rw [if_pos (decide_eq_true (by omega)), if_neg (fun h => by have := of_decide_eq_true h; omega)]
          rfl
      · refine ⟨4, ?_, by decide, by decide, fun e => by omega⟩
        rw [if_neg (fun h => by have := of_decide_eq_true h; omega), if_neg (fun h => by have := of_decide_eq_true h; omega)]
        rfl
    refine ⟨_, rfl, _, _, rfl, rfl, .inr ⟨_, rfl, _, rfl, _, _, rfl, rfl, .inr ⟨_, rfl, _, _, rfl, rfl, l, _, _, .int sz, rfl, rfl, sl hl2, esz, d, g, c, sz, rfl, D1.same s2, by omega, by omega, fun cnt H3 r0 r1 D3 u3 => ?_⟩⟩⟩
    have u03 : Up d g H H3 := ((Up.of s1).trans (Up.of s2)).trans u3
    have hrp3 := u3 _ _ (s2 _ _ hrp1) rD.1 rD.2.1
    refine ⟨cnt, rfl, by omega, by omega, for_range (lo := 0) (n := cnt.toNat) (fun i σ H4 => ∃ (y6 : Option V) (vs : List V) (rows : List PyData) (m k1 : Nat), σ = [some (.ref d), some (.ref pl), some (.ref a), some (.int (deep : Int)), some (.int oft), some (.ref rp), y6] ∧ H4 rp = some (.lst vs) ∧ DpAll K H4 vs rows ∧ Rows (cs.map (·.1)) ls (hs.map (·.1)) ps deep oft rows m ∧ m + k1 = k ∧ rows.length ≤ i ∧ Dr H4 d g c ∧ Play H4 d g c pl C Lk Ch W cs ls hs ws k1 ∧ But [d, g, pl] H H4) ?_ ?_ ?_⟩
    · exact ⟨none, [], [], 0, k, rfl, hrp3, .nil, Rows.nil, by omega, Nat.le_refl _, D3, Y.up u03, up_but3 u03⟩
    · rintro i σ H4 hi ⟨y6, vs, rows, m, k1, rfl, hrp4, hds, hrows, hmk, hlen, D4, Y4, b4⟩
      obtain ⟨r', rfl⟩ : ∃ r', r = r' + 1 := by
        cases r with
        | zero => have := z9 rfl; omega
        | succ r' => exact ⟨r', rfl⟩
      refine ⟨_, rfl, pl, _, rfl, DGet.k (k := Sum.inr "left") Y4.hpl, _, _, rfl, rfl, _, rfl, ite2 (fun h0 => ?_) (fun _ => ⟨_, vs, rows, m, k1, rfl, hrp4, hds, hrows, hmk, by omega, D4, Y4, b4⟩)⟩
      have h0 : (0 : Int) < (k1 : Int) := of_decide_eq_true h0
      obtain ⟨k2, rfl⟩ : ∃ k2, k1 = k2 + 1 := ⟨k1 - 1, by omega⟩
      refine ⟨_, rfl, pl, _, rfl, DGet.k (k := Sum.inr "left") Y4.hpl, _, _, rfl, rfl, _, rfl, ?_⟩
      refine ⟨pl, _, rfl, DPut.k (k := Sum.inr "left") Y4.hpl (by show 5 < sizeLine; decide), nx_ ?_⟩
      have e5 : putK (pl5 C Lk Ch W ((k2 + 1 : Nat) : Int)) (Sum.inr "left") (.int (((k2 + 1 : Nat) : Int) - 1)) = pl5 C Lk Ch W (k2 : Int) := by
        rw [show (((k2 + 1 : Nat) : Int) - 1) = (k2 : Int) by omega]
        rfl
      have b5 : But [d, g, pl] H4 (upd H4 pl (.dK (putK (pl5 C Lk Ch W ((k2 + 1 : Nat) : Int)) (Sum.inr "left") (.int (((k2 + 1 : Nat) : Int) - 1))))) := (But.refl H4).set (by simp)
      have Y5 := Y4.but (k' := k2) b5 (by rw [upd_same, e5])
      have D5 := D4.set (o := .dK (putK (pl5 C Lk Ch W ((k2 + 1 : Nat) : Int)) (Sum.inr "left") (.int (((k2 + 1 : Nat) : Int) - 1)))) Y4.npl.1 Y4.npl.2.1 Y4.npl.2.2
      show tDrop _ _ _ (upd H4 pl (.dK (putK (pl5 C Lk Ch W ((k2 + 1 : Nat) : Int)) (Sum.inr "left") (.int (((k2 + 1 : Nat) : Int) - 1)))))
      generalize upd H4 pl (.dK (putK (pl5 C Lk Ch W ((k2 + 1 : Nat) : Int)) (Sum.inr "left") (.int (((k2 + 1 : Nat) : Int) - 1)))) = H5 at b5 Y5 D5 ⊢
      have hrp5 := b5 _ _ hrp4 hrpn
      have hds5 := Y4.dpAll D4 b5 hrows.tup hds
      refine ⟨_, rfl, .inl ⟨rfl, _, sl hrp5⟩, _, rfl, _, rfl, _, rfl, _, rfl, _, rfl, d, g, c, pl, C, Lk, Ch, W, a, cs, ls, hs, ws, k2, ps, deep, oft, rfl, by omega, D5, Y5, N, hal.but D Y (b4.trans b5) ha, hps, hpl, ha, ho, fun v row H6 m2 k3 hv hrow hmk2 D6 Y6 b6 => ?_⟩
      have h6 := b6 _ _ hrp5 hrpn
      have lv := dpAll_len hds
      have b7 : But [d, g, pl] H (upd H6 rp (.lst (vs ++ [v]))) := ((b4.trans b5).trans b6).own nrp
      refine ⟨rp, _, _, rfl, rfl, h6, small1000 (by omega), _, vs ++ [v], rows ++ [row], m + (1 + m2), k3, rfl, upd_same, ?_, hrows.snoc hrow, by omega, by rw [List.length_append, List.length_singleton]; omega, D6.set rD.1 rD.2.1 rpc, Y.but b7 (by rw [upd_ne (fun e => hrpn (by rw [e]; simp))]; exact Y6.hpl), b7⟩
      exact dpAll_keep (fun _ _ h => sqt_setl h6 h) (tupAll_app hrows.tup (by simp only [tupAll, hrow.tup, Bool.and_self])) (dpAll_app (Y5.dpAll D5 b6 hrows.tup hds5) (.cons hv .nil))
    · rintro σ H4 ⟨y6, vs, rows, m, k1, rfl, hrp4, hds, hrows, hmk, hlen, D4, Y4, b4⟩
      refine ⟨_, rfl, rp, _, rfl, .inl ⟨sl hrp4, fun t nt => ?_⟩⟩
      obtain ⟨st, dt⟩ := new_tup (K := K) nt hds
      exact q _ rows _ m k1 dt hrows hmk (by omega) (D4.same st) (Y4.same st) (b4.trans (But.of st))
theorem ok_lbody (T : Tp K w mg) : ∀ r, FnOk P w K mg base CX0 (2 * r + 5) T.f_lbody T.fd_lbody ["_law_draw", "_law_play", "_law_around", "_law_deep", "_law_oftens"] (spLb K r)
  | 0 => ok_lbody1 T 0 ⟨fun _ _ _ _ h => h.elim, fun _ _ _ _ _ _ _ _ _ _ _ _ _ h => h.elim⟩
  | r + 1 => by
    have h := ok_lrow (L := 2 * r + 5) T (by omega) (ok_lbody T r)
    exact ok_lbody1 T (r + 1) (by
      have e : 2 * (r + 1) + 4 = 2 * r + 5 + 1 := by omega
      rw [e]
      exact h)
end
end TP
namespace TP
open PySem PySem.Spec PyProof.Rows L2 HX HB HG HU HH HD HS HV HQ HK HN TL
/-! ### a right program -/
theorem Up.but3 {d g pl : Addr} {H H1 H2 : Hp} (u : Up d g H H1) (b : But [d, g, pl] H1 H2) (n : H pl = none) : Up d g H H2 := fun x o h h1 h2 => b x o (u x o h h1 h2) (by
  simp only [List.mem_cons, List.not_mem_nil, or_false, not_or]
  exact ⟨h1, h2, fun e => by rw [e, n] at h; cases h⟩)
theorem firstSome_imp {α β γ : Type} {f : Nat → α → Option β} {f2 : Nat → α → Option γ} : ∀ {xs : List α} {i i2 : Nat}, (∀ a b x, f a x = none → f2 b x = none) → firstSome f i xs = none → firstSome f2 i2 xs = none
  | [], _, _, _, _ => rfl
  | x :: xs, i, i2, hs, h => by
    simp only [firstSome] at h ⊢
    cases e : f i x with
    | some b => rw [e] at h; cases h
    | none =>
      rw [e] at h
      rw [hs i i2 x e]
      exact firstSome_imp hs h
theorem firstSome_imp0 {α β γ : Type} {f : Nat → α → Option β} {f2 : Nat → α → Option γ} : ∀ {xs : List α} {i : Nat}, (∀ a x, f a x = none → f2 a x = none) → firstSome f i xs = none → firstSome f2 i xs = none
  | [], _, _, _ => rfl
  | x :: xs, i, hs, h => by
    simp only [firstSome] at h ⊢
    cases e : f i x with
    | some b => rw [e] at h; cases h
    | none =>
      rw [e] at h
      rw [hs i x e]
      exact firstSome_imp0 hs h
/-- whether rows are right does not hang on where they stand -/
theorem wrong_place {cs ls hs : List Str} : ∀ (n : Nat) (rows : List PyData) (pl pl' : List Int) (ps : List (Str × Str)) (oft : Int), pl.length = pl'.length → wrongD cs ls hs n rows pl ps oft = none → wrongD cs ls hs n rows pl' ps oft = none
  | 0, _, _, _, _, _, _, _ => rfl
  | n + 1, rows, pl, pl', ps, oft, hl, h => by
    rw [wrong_succ] at h ⊢
    refine firstSome_imp (fun a b r e => ?_) h
    unfold rowF at e ⊢
    rw [← hl]
    split at e
    · cases e
    · rename_i h1
      rw [if_neg h1]
      split at e
      · cases e
      · rename_i h2
        rw [if_neg h2]
        exact firstSome_imp0 (fun j bd e => wrong_place n _ _ _ _ _ (by simp [hl]) e) e
theorem row_place {cs ls hs : List Str} {n : Nat} {pl : List Int} {ps : List (Str × Str)} {oft : Int} {a b : Nat} {r : PyData} (e : rowF cs ls hs n pl ps oft a r = none) : rowF cs ls hs n pl ps oft b r = none := by
  unfold rowF at e ⊢
  split at e
  · cases e
  · rename_i h1
    rw [if_neg h1]
    split at e
    · cases e
    · rename_i h2
      rw [if_neg h2]
      exact firstSome_imp0 (fun j bd e => wrong_place n _ _ _ _ _ (by simp) e) e
theorem Rows.cat {cn ls hn : List Str} {ps : List (Str × Str)} {deep k m : Nat} {oft : Int} {rows rows2 : List PyData} (h : Rows cn ls hn ps deep oft rows k) (h2 : Rows cn ls hn ps deep oft rows2 m) : Rows cn ls hn ps deep oft (rows ++ rows2) (k + m) :=
  h.app (fun i n place hn hp => by
    have := h2.right n place hn hp
    rw [wrong_succ] at this
    exact firstSome_shift this fun _ _ _ e => row_place e) h2.cnt h2.good h2.tup h2.wt
section
variable {P : Program} {w : World} {K : PySem.W.Frag} {mg : Str → Option Value} {base : Heap}
def spDrawn (K : PySem.W.Frag) : Sp := fun vs H Q _ => ∃ (d g c : Addr), vs = [.ref d] ∧ Dr H d g c ∧
  ∀ (t pl C L Ch W : Addr) (cs : List (Str × Int)) (ls : List Str) (hs : List (Str × Int)) (ws : List Str) (v : V) (rows : List PyData) (m k' : Nat) (H' : Hp), Nm cs ls hs ws → SqT K H' t [.ref pl, v] → Dp K H' v (.tuple rows) → Rows (cs.map (·.1)) ls (hs.map (·.1)) [] 0 0 rows m → m ≤ 60 → rows.length ≤ 18 → Dr H' d g c → Play H' d g c pl C L Ch W cs ls hs ws k' → H pl = none → Up d g H H' → Q (.ref t) H'
theorem ok_drawn (T : Tp K w mg) : FnOk P w K mg base CX0 26 T.f_drawn T.fd_drawn ["_law_draw"] (spDrawn K) := by
  refine T.D_drawn.F.ok sc_drawn (fun vs H Q E h => ?_) (fun cdv A outer s H vs Q E hr h => ?_)
  · obtain ⟨d, g, c, rfl, _⟩ := h
    rfl
  · obtain ⟨d, g, c, rfl, D, q⟩ := h
    have hu := hu_of hr
    refine ⟨_, (pss_cons (ps_set (i := 1) sc_drawn.nd rfl (.inl rfl) (pcall T.D_head (ok_head T) (hr.mono (by omega)) (by rfl) (pa_cons (pv 0) pa_nil)))
  (pss_cons (ps_dput hu (pv 1) pe_str (pe_ix ix_list (pe_lst (pa_cons pe_int (pa_cons pe_int (pa_cons pe_int pa_nil)))) (pcall T.D_next (ok_next T) (hr.mono (by omega)) (by rfl) (pa_cons (pv 0) (pa_cons pe_int pa_nil))) (fun _ _ => rfl)) rfl)
  (pss_cons (ps_set (i := 2) sc_drawn.nd rfl (.inl rfl) (pe_tup pa_nil))
  (pss_cons (ps_for PassesOwn.never rfl (pi_range1 (by rfl) T.range (pa_cons (pe_op op_add pe_int (pcall T.D_next (ok_next T) (hr.mono (by omega)) (by rfl) (pa_cons (pv 0) (pa_cons pe_int pa_nil)))) pa_nil)) (pg_name (i := 3) sc_drawn.nd rfl (.inl rfl))
  (pss_one (ps_set (i := 2) sc_drawn.nd rfl (.inl rfl) (pe_op HT2.op_catA (pv 2) (pcall T.D_lbody (ok_lbody T 10) (hr.mono (by omega)) (by rfl) (pa_cons (pv 0) (pa_cons (pv 1) (pa_cons (pe_lst pa_nil) (pa_cons pe_int (pa_cons pe_int pa_nil))))))))))
  (pss_one (ps_ret (pe_tup (pa_cons (pv 1) (pa_cons (pv 2) pa_nil))))))))), ?_⟩
    refine ⟨_, rfl, d, g, c, rfl, D, fun pl C L Ch W cs ls hs ws H1 N npl D1 u1 Y1 => ?_⟩
    refine ⟨by show 3 ≤ sizeLine; decide, fun l nl => ?_⟩
    have s2 := same_upd (o := .lst [V.int 12, V.int 25, V.int 60]) nl
    have hl2 : (upd H1 l (.lst [V.int 12, V.int 25, V.int 60])) l = some (.lst [V.int 12, V.int 25, V.int 60]) := upd_same
    have lD := D1.apart nl
    refine ⟨_, rfl, d, g, c, 3, rfl, D1.same s2, by decide, by decide, fun r H3 r0 r1 D3 u3 => ?_⟩
    obtain ⟨j, rfl⟩ : ∃ j : Nat, r = (j : Int) := ⟨r.toNat, by omega⟩
    obtain ⟨k, ek, hk⟩ : ∃ k : Nat, [V.int 12, V.int 25, V.int 60][j]? = some (.int (k : Int)) ∧ k ≤ 60 := by
      match j, r1 with
      | 0, _ => exact ⟨12, rfl, by decide⟩
      | 1, _ => exact ⟨25, rfl, by decide⟩
      | 2, _ => exact ⟨60, rfl, by decide⟩
      | n + 3, h => omega
    have Y3 := (Y1.up (Up.of s2)).up u3
    refine ⟨l, _, _, .int (k : Int), rfl, rfl, sl (u3 _ _ hl2 lD.1 lD.2.1), atI_nat ek, _, rfl, pl, _, rfl, DPut.k (k := Sum.inr "left") Y3.hpl (by show 4 < sizeLine; decide), nx_ ?_⟩
    have Y4 : Play (upd H3 pl (.dK (putK (pl4 C L Ch W) (Sum.inr "left") (.int (k : Int))))) d g c pl C L Ch W cs ls hs ws k := Y3.put k
    have D4 := D3.set (o := .dK (putK (pl4 C L Ch W) (Sum.inr "left") (.int (k : Int)))) Y3.npl.1 Y3.npl.2.1 Y3.npl.2.2
    have b4 : But [d, g, pl] H3 (upd H3 pl (.dK (putK (pl4 C L Ch W) (Sum.inr "left") (.int (k : Int))))) := (But.refl H3).set (by simp)
    have u4 := ((u1.trans (Up.of s2)).trans u3).but3 b4 npl
    show tSeq _ _ _ _ (upd H3 pl (.dK (putK (pl4 C L Ch W) (Sum.inr "left") (.int (k : Int)))))
    generalize upd H3 pl (.dK (putK (pl4 C L Ch W) (Sum.inr "left") (.int (k : Int)))) = H4 at Y4 D4 u4 ⊢
    clear b4 Y3 Y1 hl2 s2
    refine ⟨Nat.zero_le _, fun t0 nt0 => ?_⟩
    obtain ⟨s5, d5⟩ := new_tup (K := K) nt0 .nil
    have Y5 := Y4.same s5
    have D5 := D4.same s5
    show tSeq _ _ _ _ (upd H4 t0 (.tup []))
    generalize upd H4 t0 (.tup []) = H5 at s5 d5 Y5 D5 ⊢
    refine ⟨_, rfl, d, g, c, 6, rfl, D5, by decide, by decide, fun r2 H6 a0 a1 D6 u6 => ⟨_, _, rfl, rfl, (1 + r2), rfl, by omega, by omega, ?_⟩⟩
    have Y6 := Y5.up u6
    have d6 := u6.dp D5 rfl d5
    have u06 := (u4.trans (Up.of s5)).trans u6
    refine for_range (lo := 0) (n := (1 + r2).toNat) (fun i σ H7 => ∃ (y3 : Option V) (v : V) (rows : List PyData) (m k1 : Nat), σ = [some (.ref d), some (.ref pl), some v, y3] ∧ Dp K H7 v (.tuple rows) ∧ Rows (cs.map (·.1)) ls (hs.map (·.1)) [] 0 0 rows m ∧ m + k1 = k ∧ rows.length ≤ 3 * i ∧ Dr H7 d g c ∧ Play H7 d g c pl C L Ch W cs ls hs ws k1 ∧ But [d, g, pl] H6 H7) ?_ ?_ ?_
    · exact ⟨none, _, [], 0, k, rfl, d6, Rows.nil, by omega, by simp, D6, Y6, But.refl _⟩
    · rintro i σ H7 hi ⟨y3, v, rows, m, k1, rfl, hv, hrows, hmk, hlen, D7, Y7, b7⟩
      obtain ⟨va, xs, rfl, -, -⟩ := dp_tup hv
      refine ⟨_, rfl, _, rfl, _, rfl, Nat.zero_le _, fun e ne => ?_⟩
      have ne : H7 e = none := ne
      have s8 := same_upd (o := .lst []) ne
      have he8 : (upd H7 e (.lst [])) e = some (.lst []) := upd_same
      have Y8 := Y7.same s8
      have D8 := D7.same s8
      have hv8 := s8.dp hv
      have he : e ∉ [d, g, pl] := by
        intro hm
        simp only [List.mem_cons, List.not_mem_nil, or_false] at hm
        have nD := D7.apart ne
        rcases hm with e1 | e1 | e1
        · exact nD.1 e1
        · exact nD.2.1 e1
        · rw [e1, Y7.hpl] at ne; cases ne
      refine ⟨d, g, c, pl, C, L, Ch, W, e, cs, ls, hs, ws, k1, [], 0, 0, rfl, rfl, D8, Y8, N, ⟨[], he8, .nil⟩, ⟨(fun _ h => by cases h), (fun _ h => by cases h), List.nodup_nil, Nat.zero_le _⟩, Nat.le_refl _, he, by decide, fun v2 rows2 H9 m2 k2 hv2 hrows2 hmk2 hl2 D9 Y9 b9 => ?_⟩
      obtain ⟨va2, xs2, rfl, -, -⟩ := dp_tup hv2
      have hv9 := Y8.dp D8 b9 (show tupD (.tuple rows) = true from hrows.tup) hv8
      refine cat_dp hv9 hv2 (Nat.le_of_lt (small1000 (by omega))) fun t2 H10 s10 d10 => ?_
      exact ⟨_, _, rows ++ rows2, m + m2, k2, rfl, d10, hrows.cat hrows2, by omega, by rw [List.length_append]; omega, D9.same s10, Y9.same s10, ((b7.trans (But.of s8)).trans b9).trans (But.of s10)⟩
    · rintro σ H7 ⟨y3, v, rows, m, k1, rfl, hv, hrows, hmk, hlen, D7, Y7, b7⟩
      refine ⟨_, rfl, _, rfl, by show 2 ≤ sizeLine; decide, fun t nt => ?_⟩
      have st := same_upd (o := .tup [.ref pl, v]) nt
      exact q t pl C L Ch W cs ls hs ws v rows m k1 _ N (stt upd_same) (st.dp hv) hrows (by omega) (by omega) (D7.same st) (Y7.same st) npl ((u06.but3 b7 npl).trans (Up.of st))
end
end TP
namespace TP
open PySem PySem.Spec PyProof.Rows L2 HX HB HG HU HH HD HS HV HQ HK HN TL HM
theorem passN {X : Cx} : Passes (L2.CX X.prog X.w) X E0 := fun _ _ _ _ _ _ _ h => by
  obtain ⟨_, _, _, _, _, _, _, _, _, _, _, _, h⟩ := h
  exact h.elim
def rot3 {α : Type} : List α → List α
  | [a, b, c] => [c, a, b]
  | l => l
def swp3 {α : Type} : List α → List α
  | [a, b, c] => [c, b, a]
  | l => l
def rol3 {α : Type} : List α → List α
  | [a, b, c] => [b, c, a]
  | l => l
theorem vals_rot3 {zs : List V} {ws : List Value} (h : Vals zs ws) : Vals (rot3 zs) (rot3 ws) := by
  match zs, ws, h with
  | [], _, .nil => exact .nil
  | [_], _, .cons a .nil => exact .cons a .nil
  | [_, _], _, .cons a (.cons b .nil) => exact .cons a (.cons b .nil)
  | [_, _, _], _, .cons a (.cons b (.cons c .nil)) => exact .cons c (.cons a (.cons b .nil))
  | _ :: _ :: _ :: _ :: _, _, .cons a (.cons b (.cons c (.cons d t))) => exact .cons a (.cons b (.cons c (.cons d t)))
theorem vals_swp3 {zs : List V} {ws : List Value} (h : Vals zs ws) : Vals (swp3 zs) (swp3 ws) := by
  match zs, ws, h with
  | [], _, .nil => exact .nil
  | [_], _, .cons a .nil => exact .cons a .nil
  | [_, _], _, .cons a (.cons b .nil) => exact .cons a (.cons b .nil)
  | [_, _, _], _, .cons a (.cons b (.cons c .nil)) => exact .cons c (.cons b (.cons a .nil))
  | _ :: _ :: _ :: _ :: _, _, .cons a (.cons b (.cons c (.cons d t))) => exact .cons a (.cons b (.cons c (.cons d t)))
theorem vals_rol3 {zs : List V} {ws : List Value} (h : Vals zs ws) : Vals (rol3 zs) (rol3 ws) := by
  match zs, ws, h with
  | [], _, .nil => exact .nil
  | [_], _, .cons a .nil => exact .cons a .nil
  | [_, _], _, .cons a (.cons b .nil) => exact .cons a (.cons b .nil)
  | [_, _, _], _, .cons a (.cons b (.cons c .nil)) => exact .cons b (.cons c (.cons a .nil))
  | _ :: _ :: _ :: _ :: _, _, .cons a (.cons b (.cons c (.cons d t))) => exact .cons a (.cons b (.cons c (.cons d t)))
theorem prog_none {cs : List (Str × Int)} {ls : List Str} {hs : List (Str × Int)} {ws : List Str} {rows : List PyData} {m : Nat} (N : Nm cs ls hs ws) (h : Rows (cs.map (·.1)) ls (hs.map (·.1)) [] 0 0 rows m) (h60 : m ≤ 60) : progD 22 cs ls hs (.tuple rows) = none ∧ (placesD 22 rows []).length = m ∧ wrongD (cs.map (·.1)) ls (hs.map (·.1)) 22 rows [] [] 0 = none := by
  have e1 : (placesD 22 rows []).length = m := by rw [places_len]; exact h.cnt 21 (by decide)
  have e2 : wrongD (cs.map (·.1)) ls (hs.map (·.1)) 22 rows [] [] 0 = none := h.right 21 [] (by decide) rfl
  refine ⟨?_, e1, e2⟩
  have e2 : firstD (cs.map (·.1)) ls (hs.map (·.1)) 22 (.tuple rows) = none := e2
  unfold progD
  rw [N.cells.sizes, N.locksD, N.lanes.sizes, e2]
  show (if (placesD 22 rows []).length ≤ 60 then none else some []) = none
  rw [e1, if_pos h60]
theorem Same.V1 {x dx : Addr} {H H' : Hp} {o1 o2 : HO} (nx : H x = none) (nd : H dx = none) (v : V1 x (upd (upd H dx o1) x o2) H') : Same H H' := fun b o h => v b o ((((Same.refl H).own nd).own nx) b o h) (fun e => by rw [e, nx] at h; cases h)
/-- a program that stands: all of it -/
structure Pf (K : PySem.W.Frag) (H0 H : Hp) (p C : Addr) (cs : List (Str × Int)) (ls : List Str) (hs : List (Str × Int)) (rows : List PyData) (spots : List (List Int)) : Prop where
  ex : ∃ (dx s f l w : Addr) (b : V) (vs : List V), H p = some (.ins C dx [("spots", .ref s), ("tree", b), ("first", .ref f), ("bolts", .ref l), ("widths", .ref w)]) ∧ Dp K H b (.tuple rows) ∧ H s = some (.lst vs) ∧ PL K H vs spots ∧ H f = some (.dK (dI cs)) ∧ H l = some (.lst (ls.map V.str)) ∧ H w = some (.dK (dI hs)) ∧ H0 p = none ∧ H0 s = none ∧ H0 f = none ∧ H0 l = none ∧ H0 w = none
  tup : tupAll rows = true
theorem Pf.keep {K : PySem.W.Frag} {H0 H H' : Hp} {p C : Addr} {cs : List (Str × Int)} {ls : List Str} {hs : List (Str × Int)} {rows : List PyData} {spots : List (List Int)} (g : Pf K H0 H p C cs ls hs rows spots) (k : ∀ b o, H b = some o → H0 b = none → H' b = some o) (kt : ∀ a xs, SqT K H a xs → SqT K H' a xs) : Pf K H0 H' p C cs ls hs rows spots := by
  obtain ⟨⟨dx, s, f, l, w, b, vs, hp, hb, hs', hPL, hf, hl, hw, n1, n2, n3, n4, n5⟩, z7⟩ := g
  exact ⟨⟨dx, s, f, l, w, b, vs, k _ _ hp n1, dp_keep kt (show tupD (.tuple rows) = true from z7) hb, k _ _ hs' n2, paired_imp (fun _ _ ⟨t, e, h⟩ => ⟨t, e, kt _ _ h⟩) hPL, k _ _ hf n3, k _ _ hl n4, k _ _ hw n5, n1, n2, n3, n4, n5⟩, z7⟩
theorem Pf.same {K : PySem.W.Frag} {H0 H H' : Hp} {p C : Addr} {cs : List (Str × Int)} {ls : List Str} {hs : List (Str × Int)} {rows : List PyData} {spots : List (List Int)} (g : Pf K H0 H p C cs ls hs rows spots) (s : Same H H') : Pf K H0 H' p C cs ls hs rows spots := g.keep (fun b o h _ => s b o h) fun _ _ h => s.sqt h
theorem Pf.base {K : PySem.W.Frag} {H0 H1 H : Hp} {p C : Addr} {cs : List (Str × Int)} {ls : List Str} {hs : List (Str × Int)} {rows : List PyData} {spots : List (List Int)} (g : Pf K H0 H p C cs ls hs rows spots) (k : ∀ b, H0 b = none → H1 b = none) : Pf K H1 H p C cs ls hs rows spots := by
  obtain ⟨⟨dx, s, f, l, w, b, vs, hp, hb, hs', hPL, hf, hl, hw, n1, n2, n3, n4, n5⟩, z7⟩ := g
  exact ⟨⟨dx, s, f, l, w, b, vs, hp, hb, hs', hPL, hf, hl, hw, k _ n1, k _ n2, k _ n3, k _ n4, k _ n5⟩, z7⟩
theorem Pf.base2 {K : PySem.W.Frag} {H0 H1 H : Hp} {p C : Addr} {cs : List (Str × Int)} {ls : List Str} {hs : List (Str × Int)} {rows : List PyData} {spots : List (List Int)} (g : Pf K H0 H p C cs ls hs rows spots) (k : ∀ b o, H b = some o → H0 b = none → H1 b = none) : Pf K H1 H p C cs ls hs rows spots := by
  obtain ⟨⟨dx, s, f, l, w, b, vs, hp, hb, hs', hPL, hf, hl, hw, n1, n2, n3, n4, n5⟩, z7⟩ := g
  exact ⟨⟨dx, s, f, l, w, b, vs, hp, hb, hs', hPL, hf, hl, hw, k _ _ hp n1, k _ _ hs' n2, k _ _ hf n3, k _ _ hl n4, k _ _ hw n5⟩, z7⟩
/-- what Program's making leaves -/
theorem Pf.made {K : PySem.W.Frag} {H H' : Hp} {x dx C : Addr} {b : V} {cs : List (Str × Int)} {ls : List Str} {hs : List (Str × Int)} {rows : List PyData} {spots : List (List Int)} (nx : H x = none) (ndx : H dx = none) (O : PObj K (upd (upd H dx (.own x)) x (.ins C dx [])) H' x C b cs ls hs spots) (hd : Dp K H b (.tuple rows)) (v1 : V1 x (upd (upd H dx (.own x)) x (.ins C dx [])) H') (t : tupAll rows = true) : Pf K H H' x C cs ls hs rows spots := by
  obtain ⟨dx', s', f, l, wd, vs, hp, hs', hPL, hf, hl, hw, _, _, f1, f2, f3, f4⟩ := O.ex
  have sc : Same H (upd (upd H dx (.own x)) x (.ins C dx [])) := ((Same.refl H).own ndx).own nx
  have sH := Same.V1 nx ndx v1
  have fr : ∀ {b : Addr}, (upd (upd H dx (.own x)) x (.ins C dx [])) b = none → H b = none := fun h => sc.free h
  exact ⟨⟨dx', s', f, l, wd, b, vs, hp, sH.dp hd, hs', hPL, hf, hl, hw, nx, fr f1, fr f2, fr f3, fr f4⟩, t⟩
section
variable {P : Program} {w : World} {K : PySem.W.Frag} {mg : Str → Option Value} {base : Heap}
theorem bd_prog (T : Tp K w mg) : ∃ ds, Vals [V.non, V.non, V.non] ds ∧ L2.Binds K T.fd_prog ["self", "body", "cells", "locks", "channels"] ds :=
  T.D_prog.binds0 (ps := ["self", "body", "cells", "locks", "channels"]) 2 (List.cons_ne_nil _ _) rfl
    (fun D doc pm an cdv ct us mv h1 h2 => match us, mv, h1, h2 with | [_, _], [_, _, _], _, _ => ⟨_, _, _, _, _, _, rfl, rfl, _, _, _, _, _, _, rfl, rfl, _, _, _, _, _, _, rfl, rfl, rfl⟩)
/-- Program(b, locks=.., channels=.., cells=..) -/
theorem kb_progR (T : Tp K w mg) : KBn K T.fd_prog ["self", "body", "cells", "locks", "channels"] 2 ["locks", "channels", "cells"] (fun us ws => us ++ rot3 ws) (fun vs zs => vs ++ rot3 zs) := by
  obtain ⟨mv, h⟩ := T.D_prog.kbinds0 (ps := ["self", "body", "cells", "locks", "channels"]) 2 ["locks", "channels", "cells"] [] (fun us _ ws => us ++ rot3 ws) (List.cons_ne_nil _ _) (fun q h => by cases h) (fun a _ c => a.append (vals_rot3 c))
    (fun D doc pm an cdv ct us mv ws h1 h2 h3 => match us, ws, mv, h1, h2, h3 with | [_, _], [_, _, _], [], _, _, _ => rfl)
  exact h
/-- Program(b, channels=.., locks=.., cells=..) -/
theorem kb_progS (T : Tp K w mg) : KBn K T.fd_prog ["self", "body", "cells", "locks", "channels"] 2 ["channels", "locks", "cells"] (fun us ws => us ++ swp3 ws) (fun vs zs => vs ++ swp3 zs) := by
  obtain ⟨mv, h⟩ := T.D_prog.kbinds0 (ps := ["self", "body", "cells", "locks", "channels"]) 2 ["channels", "locks", "cells"] [] (fun us _ ws => us ++ swp3 ws) (List.cons_ne_nil _ _) (fun q h => by cases h) (fun a _ c => a.append (vals_swp3 c))
    (fun D doc pm an cdv ct us mv ws h1 h2 h3 => match us, ws, mv, h1, h2, h3 with | [_, _], [_, _, _], [], _, _, _ => rfl)
  exact h
/-- Program(b, channels=.., cells=.., locks=..) -/
theorem kb_progL (T : Tp K w mg) : KBn K T.fd_prog ["self", "body", "cells", "locks", "channels"] 2 ["channels", "cells", "locks"] (fun us ws => us ++ rol3 ws) (fun vs zs => vs ++ rol3 zs) := by
  obtain ⟨mv, h⟩ := T.D_prog.kbinds0 (ps := ["self", "body", "cells", "locks", "channels"]) 2 ["channels", "cells", "locks"] [] (fun us _ ws => us ++ rol3 ws) (List.cons_ne_nil _ _) (fun q h => by cases h) (fun a _ c => a.append (vals_rol3 c))
    (fun D doc pm an cdv ct us mv ws h1 h2 h3 => match us, ws, mv, h1, h2, h3 with | [_, _], [_, _, _], [], _, _, _ => rfl)
  exact h
/-- a program is made of what is drawn: from the reading of the making -/
theorem made_right {cs : List (Str × Int)} {ls : List Str} {hs : List (Str × Int)} {ws : List Str} {rows : List PyData} {m : Nat} {H : Hp} {v : V} {vc vl vw : V} {C CE x dx : Addr} {Q : VK} {E : XK} (N : Nm cs ls hs ws) (hR : Rows (cs.map (·.1)) ls (hs.map (·.1)) [] 0 0 rows m) (h60 : m ≤ 60) (h18 : rows.length ≤ 1000)
    (hd : Dp K H v (.tuple rows)) (hC : ArgD H vc cs) (hL : ArgL H vl ls) (hCh : ArgD H vw hs) (nx : H x = none) (ndx : H dx = none) (q : ∀ H', Same H H' → Pf K H H' x C cs ls hs rows (placesD 22 rows []) → Q .non H') : spProg K 22 C CE [.ref x, v, vc, vl, vw] (upd (upd H dx (.own x)) x (.ins C dx [])) Q E := by
  have sc : Same H (upd (upd H dx (.own x)) x (.ins C dx [])) := ((Same.refl H).own ndx).own nx
  obtain ⟨eN, eP, _⟩ := prog_none N hR h60
  refine ⟨x, dx, v, .tuple rows, vc, vl, vw, cs, ls, hs, rfl, upd_same, sc.dp hd, (hR.good1 (by omega)).mono (by decide), hC.same sc, N.cells.okd, hL.same sc, by have := N.lfew; omega, fun z hz => (Low.of (N.locks z hz)).ok, hCh.same sc, N.lanes.okd, by show (placesD 22 rows []).length ≤ sizeLine; rw [eP]; exact Nat.le_of_lt (small1000 (by omega)), fun H' v1 => ?_⟩
  rw [eN]
  intro O
  exact q H' (Same.V1 nx ndx v1) (Pf.made nx ndx O hd v1 hR.tup)
end
end TP
namespace TP
open PySem PySem.Spec PyProof.Rows L2 HX HB HG HU HH HD HS HV HQ HK HN TL HM HP
/-! ### rows and what leads to them -/
/-- a row of a right form -/
structure Rt (d : PyData) (z : Str) (ks : List Str) (ds : List PyData) : Prop where
  eq : d = .tuple (.str z :: ds)
  ks_ : kindsOf z = some ks
  len : ds.length = ks.length
  bod : ∀ b ∈ bodiesV ks ds, b = .tuple (rowsD b)
def flatP : List (Nat × Nat) → List Int
  | [] => []
  | (j, i) :: t => (j : Int) :: (i : Int) :: flatP t
/-- from a row by bodies and places to a row -/
inductive Lead : PyData → List (Nat × Nat) → PyData → Prop
  | nil {r : PyData} {z : Str} {ks : List Str} {ds : List PyData} : Rt r z ks ds → Lead r [] r
  | cons {r b r' x : PyData} {z : Str} {ks : List Str} {ds : List PyData} {j i : Nat} {t : List (Nat × Nat)} : Rt r z ks ds → (bodiesV ks ds)[j]? = some b → (rowsD b)[i]? = some r' → Lead r' t x → Lead r ((j, i) :: t) x
def At (rows : List PyData) (q : List Int) (x : PyData) : Prop := ∃ (i : Nat) (ps : List (Nat × Nat)) (r : PyData), q = (i : Int) :: flatP ps ∧ rows[i]? = some r ∧ Lead r ps x
theorem flatP_ev : ∀ ps : List (Nat × Nat), ev2 (flatP ps) = ps.map (fun p => (p.1 : Int)) ∧ ev2 ((flatP ps).drop 1) = ps.map fun p => (p.2 : Int)
  | [] => ⟨rfl, rfl⟩
  | [(j, i)] => ⟨rfl, rfl⟩
  | (j, i) :: (j', i') :: t => by
    obtain ⟨h1, h2⟩ := flatP_ev ((j', i') :: t)
    refine ⟨?_, ?_⟩
    · show (j : Int) :: ev2 (flatP ((j', i') :: t)) = _
      rw [h1]
      rfl
    · show (i : Int) :: ev2 ((flatP ((j', i') :: t)).drop 1) = _
      rw [h2]
      rfl
theorem ev2_map {α β : Type} (f : α → β) : ∀ xs : List α, ev2 (xs.map f) = (ev2 xs).map f
  | [] => rfl
  | [x] => rfl
  | x :: y :: r => by
    show f x :: ev2 (r.map f) = f x :: (ev2 r).map f
    rw [ev2_map f r]
theorem flatP_len : ∀ ps : List (Nat × Nat), (flatP ps).length = 2 * ps.length
  | [] => rfl
  | (j, i) :: t => by
    show (flatP t).length + 1 + 1 = 2 * (t.length + 1)
    rw [flatP_len t]
    omega
theorem flatP_inj : ∀ {ps qs : List (Nat × Nat)}, flatP ps = flatP qs → ps = qs
  | [], [], _ => rfl
  | [], (_, _) :: _, h => by cases h
  | (_, _) :: _, [], h => by cases h
  | (j, i) :: t, (j', i') :: t', h => by
    injection h with h1 h2
    injection h2 with h2 h3
    rw [flatP_inj h3, Int.ofNat.inj h1, Int.ofNat.inj h2]
theorem Rt.uni {d : PyData} {z z' : Str} {ks ks' : List Str} {ds ds' : List PyData} (a : Rt d z ks ds) (b : Rt d z' ks' ds') : z = z' ∧ ks = ks' ∧ ds = ds' := by
  have e := a.eq.symm.trans b.eq
  injection e with e
  injection e with e1 e2
  injection e1 with e1
  subst e1 e2
  have := a.ks_.symm.trans b.ks_
  exact ⟨rfl, Option.some.inj this, rfl⟩
theorem Lead.uni {r x y : PyData} {ps : List (Nat × Nat)} (a : Lead r ps x) (b : Lead r ps y) : x = y := by
  induction a with
  | nil _ => cases b; rfl
  | cons R h1 h2 _ ih =>
    cases b with
    | cons R' h1' h2' t' =>
      obtain ⟨_, rfl, rfl⟩ := R.uni R'
      rw [h1] at h1'
      cases h1'
      rw [h2] at h2'
      cases h2'
      exact ih t'
theorem At.uni {rows : List PyData} {q : List Int} {x y : PyData} (a : At rows q x) (b : At rows q y) : x = y := by
  obtain ⟨i, ps, r, rfl, hr, hl⟩ := a
  obtain ⟨i', ps', r', e, hr', hl'⟩ := b
  injection e with e1 e2
  obtain rfl := Int.ofNat.inj e1
  obtain rfl := flatP_inj e2
  rw [hr] at hr'
  cases hr'
  exact hl.uni hl'
theorem rt_of {cs ls hs : List Str} {ps : List (Str × Str)} {d : PyData} (h : isRowD cs ls hs ps d = true) : ∃ z ks ds, Rt d z ks ds := by
  obtain ⟨z, ks, ds, R⟩ := row_ok h
  exact ⟨z, ks, ds, R.eq, R.ks_, R.len, bodies_parts fun q hq hk => part_body (by rw [← hk]; exact R.parts q hq)⟩
theorem mem_flatF {α β : Type} {f : Nat → α → List β} {y : β} : ∀ {xs : List α} {i : Nat}, y ∈ flatF f i xs → ∃ k x, xs[k]? = some x ∧ y ∈ f (i + k) x
  | [], _, h => by cases h
  | x :: xs, i, h => by
    rcases List.mem_append.mp h with h | h
    · exact ⟨0, x, rfl, h⟩
    · obtain ⟨k, u, h1, h2⟩ := mem_flatF h
      exact ⟨k + 1, u, h1, by rw [show i + (k + 1) = i + 1 + k by omega]; exact h2⟩
theorem bodiesD_rt {d : PyData} {z : Str} {ks : List Str} {ds : List PyData} (R : Rt d z ks ds) : bodiesD d = bodiesV ks ds := by
  rw [R.eq]
  simp only [bodiesD, R.ks_]
/-- each told place leads to a row -/
theorem places_at {cs ls hs : List Str} : ∀ (n : Nat) (rows : List PyData) (place : List Int) (ps : List (Str × Str)) (oft : Int), wrongD cs ls hs n rows place ps oft = none → ∀ p ∈ placesD n rows place, ∃ q x, p = place ++ q ∧ At rows q x
  | 0, _, _, _, _, _, _, h => by cases h
  | n + 1, rows, place, ps, oft, hw, p, hp => by
    rw [wrong_succ] at hw
    obtain ⟨k, row, hk, hp⟩ := mem_flatF (show p ∈ flatF _ 0 rows from hp)
    rw [Nat.zero_add] at hp
    obtain ⟨hk1, hk2⟩ := List.getElem?_eq_some_iff.mp hk
    have h1 := firstSome_none hw k hk1
    rw [Nat.zero_add, hk2] at h1
    obtain ⟨hr, _, hb⟩ := rowF_none h1
    obtain ⟨z, ks, ds, R⟩ := rt_of hr
    rcases List.mem_cons.mp hp with rfl | hp
    · exact ⟨[(k : Int)], row, rfl, k, [], row, rfl, hk, .nil R⟩
    · obtain ⟨j, b, hj, hp⟩ := mem_flatF hp
      rw [Nat.zero_add] at hp
      obtain ⟨hj1, hj2⟩ := List.getElem?_eq_some_iff.mp hj
      have h2 := firstSome_none hb j hj1
      rw [Nat.zero_add, hj2] at h2
      obtain ⟨q, x, rfl, i, qs, r, rfl, h3, h4⟩ := places_at n (rowsD b) _ _ _ h2 p hp
      rw [bodiesD_rt R] at hj
      exact ⟨(k : Int) :: flatP ((j, i) :: qs), x, by simp [flatP, List.append_assoc], k, (j, i) :: qs, row, rfl, hk, .cons R hj h3 h4⟩
section
variable {P : Program} {w : World} {K : PySem.W.Frag} {mg : Str → Option Value} {base : Heap}
theorem ok_npl (T : Tp K w mg) : FnOk P w K mg base CX0 1 T.f_npl T.fd_npl ["self", "at"] (spEx T.C_NoPlace "at") := by
  refine T.D_npl.ok sc_npl (fun vs H Q E h => ?_) (fun cdv A outer s H vs Q E hr h => ?_)
  · obtain ⟨a, y, rfl, _⟩ := h
    rfl
  · obtain ⟨a, y, rfl, ha, q⟩ := h
    refine ⟨_, (pss_cons (ps_expr (HY.pe_baseinit T.bs_YardError (by rfl) T.gC_YardError (pa_cons (pv 0) (pa_cons pe_str pa_nil))))
  (pss_one (ps_ost (pv 0) (pv 1)))), ?_⟩
    exact ⟨_, rfl, a, T.C_NoPlace, [.str "no place"], rfl, by decide, T.x_NoPlace, ha, _, rfl, _, rfl, a, T.C_NoPlace, rfl, T.x_NoPlace, T.na_NoPlace_at, .inl ⟨ha, q⟩⟩
/-- what a body's row is in the heap -/
theorem dp_rt {H : Hp} {v : V} {d : PyData} {z : Str} {ks : List Str} {ds : List PyData} (R : Rt d z ks ds) (h : Dp K H v d) : ∃ (a : Addr) (xs : List V), v = .ref a ∧ SqT K H a (.str z :: xs) ∧ DpAll K H xs ds := by
  rw [R.eq] at h
  obtain ⟨a, xs, rfl, hx, hall⟩ := dp_tup h
  obtain ⟨x, ys, rfl, h1, h2⟩ := dpAll_cons hall
  cases h1
  exact ⟨a, ys, rfl, hx, h2⟩
def spRowAt (K : PySem.W.Frag) : Sp := fun vs H Q _ => ∃ (b t : Addr) (rows : List PyData) (q : List Int) (x : PyData), vs = [.ref b, .ref t] ∧ Dp K H (.ref b) (.tuple rows) ∧ SqT K H t (q.map V.int) ∧ At rows q x ∧ q.length ≤ 1000 ∧ ∀ v H', Same H H' → Dp K H' v x → Q v H'
theorem ok_rowat (T : Tp K w mg) : FnOk P w K mg base CX0 2 T.f_rowat T.fd_rowat ["body", "place"] (spRowAt K) := by
  refine T.D_rowat.F.ok sc_rowat (fun vs H Q E h => ?_) (fun cdv A outer s H vs Q E hr h => ?_)
  · obtain ⟨b, t, rows, q, x, rfl, _⟩ := h
    rfl
  · obtain ⟨b, t, rows, q, x, rfl, hb, ht, ⟨i0, ps, r0, rfl, hi0, hL⟩, hq, fin⟩ := h
    refine ⟨_, (pss_cons (ps_set (i := 2) sc_rowat.nd rfl (.inl rfl) (pe_ix ix_tup (pv 0) (pe_ix ix_tup (pv 1) pe_int (fun _ _ => rfl)) (fun _ _ => rfl)))
  (pss_cons (ps_for PassesOwn.never rfl (RZ.pi_zipA (by rfl) T.zip (pa_cons (HP.pe_twoT (pv 1) (po_some pe_int)) (pa_cons (HP.pe_twoT (pv 1) (po_some pe_int)) pa_nil))) (pg_tup rfl (pgs_cons (pg_name (i := 3) sc_rowat.nd rfl (.inl rfl)) (pgs_cons (pg_name (i := 4) sc_rowat.nd rfl (.inl rfl)) pgs_nil)))
  (pss_one (ps_set (i := 2) sc_rowat.nd rfl (.inl rfl) (pe_ix ix_tup (pe_ix ix_list (pcall T.D_bodies (ok_bodies T) hr (by rfl) (pa_cons (pv 2) pa_nil)) (pv 3) (fun _ _ => rfl)) (pv 4) (fun _ _ => rfl)))))
  (pss_one (ps_ret (pv 2))))), ?_⟩
    obtain ⟨b', xs, e, hx, hall⟩ := dp_tup hb
    cases e
    obtain ⟨v0, hv0, hd0⟩ := dp_at hall hi0
    have ht' : SqT K H t (V.int i0 :: (flatP ps).map V.int) := ht
    refine ⟨_, rfl, _, rfl, _, _, _, _, rfl, rfl, ht', atI_nat (j := 0) rfl, _, _, _, _, rfl, rfl, hx, atI_nat (j := i0) hv0, ?_⟩
    obtain ⟨ev1, ev2'⟩ := flatP_ev ps
    refine ⟨_, rfl, 1, rfl, t, _, rfl, ht', fun p1 n1 => ?_⟩
    have s1 := same_upd (o := .tup (ev2 ((V.int i0 :: (flatP ps).map V.int).drop (HT.sIx (V.int i0 :: (flatP ps).map V.int).length 0 (some 1))))) n1
    have e1 : ev2 ((V.int i0 :: (flatP ps).map V.int).drop (HT.sIx (V.int i0 :: (flatP ps).map V.int).length 0 (some 1))) = (ps.map fun p => (p.1 : Int)).map V.int := by
      rw [show HT.sIx (V.int i0 :: (flatP ps).map V.int).length 0 (some 1) = min 1 (V.int i0 :: (flatP ps).map V.int).length from HT.sIx_nat _ 0 1, List.length_cons, show min 1 (((flatP ps).map V.int).length + 1) = 1 by omega]
      show ev2 ((flatP ps).map V.int) = _
      rw [ev2_map, ev1]
    have h1 : (upd H p1 (.tup (ev2 ((V.int i0 :: (flatP ps).map V.int).drop (HT.sIx (V.int i0 :: (flatP ps).map V.int).length 0 (some 1)))))) p1 = some (.tup ((ps.map fun p => (p.1 : Int)).map V.int)) := by rw [upd_same, e1]
    generalize upd H p1 (.tup (ev2 ((V.int i0 :: (flatP ps).map V.int).drop (HT.sIx (V.int i0 :: (flatP ps).map V.int).length 0 (some 1))))) = H1 at s1 h1 ⊢
    refine ⟨_, rfl, 2, rfl, t, _, rfl, s1.sqt ht', fun p2 n2 => ?_⟩
    have s2 := same_upd (o := .tup (ev2 ((V.int i0 :: (flatP ps).map V.int).drop (HT.sIx (V.int i0 :: (flatP ps).map V.int).length 0 (some 2))))) n2
    have e2 : ev2 ((V.int i0 :: (flatP ps).map V.int).drop (HT.sIx (V.int i0 :: (flatP ps).map V.int).length 0 (some 2))) = (ps.map fun p => (p.2 : Int)).map V.int := by
      rw [show HT.sIx (V.int i0 :: (flatP ps).map V.int).length 0 (some 2) = min 2 (V.int i0 :: (flatP ps).map V.int).length from HT.sIx_nat _ 0 2, List.length_cons]
      cases ps with
      | nil => rfl
      | cons p t =>
        rw [show min 2 (((flatP (p :: t)).map V.int).length + 1) = 2 by rw [List.length_map, flatP_len, List.length_cons]; omega]
        show ev2 (((flatP (p :: t)).map V.int).drop 1) = _
        rw [← List.map_drop, ev2_map, ev2']
    have h2 : (upd H1 p2 (.tup (ev2 ((V.int i0 :: (flatP ps).map V.int).drop (HT.sIx (V.int i0 :: (flatP ps).map V.int).length 0 (some 2)))))) p2 = some (.tup ((ps.map fun p => (p.2 : Int)).map V.int)) := by rw [upd_same, e2]
    generalize upd H1 p2 (.tup (ev2 ((V.int i0 :: (flatP ps).map V.int).drop (HT.sIx (V.int i0 :: (flatP ps).map V.int).length 0 (some 2))))) = H2 at s2 h2 ⊢
    have s02 := s1.trans s2
    have h1 := s2 _ _ h1
    have h2' : SqT K H2 p2 ((ps.map fun p => (p.2 : Int)).map V.int) := stt h2
    refine ⟨p1, p2, _, _, rfl, .inr ⟨stt h1, h2', for_it (HE.walk_zipT (xs := (ps.map fun p => (p.1 : Int)).map V.int) (ys := (ps.map fun p => (p.2 : Int)).map V.int) (n := ps.length) (by simp)) (fun k σ H3 => ∃ (y3 y4 : Option V) (v : V) (r : PyData), σ = [some (.ref b), some (.ref t), some v, y3, y4] ∧ Same H2 H3 ∧ Dp K H3 v r ∧ Lead r (ps.drop k) x) ?_ (fun k σ H3 _ g => by obtain ⟨_, _, _, _, _, sm, _, _⟩ := g; exact ⟨stt (sm _ _ h1), sm.sqt h2'⟩) ?_ ?_⟩⟩
    · exact ⟨_, _, v0, r0, rfl, Same.refl H2, s02.dp hd0, hL⟩
    · rintro k x' σ H3 H4 hk ⟨y3, y4, v, r, rfl, sm, hd, hL⟩ ⟨Tt, x1, x2, rfl, nT, rfl, g1, g2⟩
      dsimp only at g1 g2
      obtain ⟨⟨j, i⟩, hji⟩ : ∃ p, ps[k]? = some p := ⟨_, List.getElem?_eq_getElem hk⟩
      simp only [List.getElem?_map, hji, Option.map_some, Option.some.injEq] at g1 g2
      subst g1 g2
      rw [show ps.drop k = (j, i) :: ps.drop (k + 1) by rw [List.drop_eq_getElem_cons hk]; congr 1; exact (List.getElem?_eq_some_iff.mp hji).2] at hL
      cases hL with
      | @cons r bb r' _ z ks ds _ _ _ R hj hi hL' =>
      have smT := same_upd (o := .tup [V.int (j : Int), V.int (i : Int)]) nT
      obtain ⟨ra, rxs, rfl, hrx, hrall⟩ := dp_rt R hd
      refine ⟨Tt, _, rfl, stt upd_same, rfl, _, _, rfl, _, _, rfl, rfl, ?_⟩
      refine ⟨_, rfl, ra, z, ks, rxs, rfl, smT.sqt hrx, R.ks_, fun lp H5 nlp s5 hlp => ?_⟩
      have s35 := smT.trans s5
      obtain ⟨vb, hvb, hdb⟩ := dp_at (dpAll_bodies ks (s35.dpAll hrall)) hj
      have eb := R.bod bb (List.mem_of_getElem? hj)
      rw [eb] at hdb
      obtain ⟨ba, bxs, rfl, hbx, hball⟩ := dp_tup hdb
      obtain ⟨vr, hvr, hdr⟩ := dp_at hball hi
      refine ⟨_, rfl, _, _, _, _, rfl, rfl, sl hlp, atI_nat (j := j) hvb, _, rfl, _, _, _, _, rfl, rfl, hbx, atI_nat (j := i) hvr, ?_⟩
      exact ⟨_, _, vr, r', rfl, sm.trans s35, hdr, hL'⟩
    · rintro σ H3 ⟨y3, y4, v, r, rfl, sm, hd, hL⟩
      rw [List.drop_length] at hL
      cases hL
      exact ⟨_, rfl, fin v H3 (s02.trans sm) hd⟩
end
end TP
namespace TP
open PySem PySem.Spec PyProof.Rows L2 HX HB HG HU HH HD HS HV HQ HK HN TL HM HP
/-! ### Program.places, Program.row -/
theorem eqv_ints : ∀ a b : List Int, PyData.eqvAll (a.map .int) (b.map .int) = decide (a = b)
  | [], [] => rfl
  | [], _ :: _ => rfl
  | _ :: _, [] => rfl
  | x :: a, y :: b => by
    simp only [List.map_cons, PyData.eqvAll, PyData.eqv, eqv_ints a b, List.cons.injEq, Bool.decide_and]
    rfl
theorem shaped_ints (q : List Int) : SeqAt.shaped (.tuple (q.map .int)) = true := by
  show (PyData.canLay0 (.tuple (q.map PyData.int)) && decide (PyData.depth (.tuple (q.map PyData.int)) ≤ 64)) = true
  simp only [PyData.canLay0, PyData.depth, ints_lay q, ints_depth q]
  rfl
abbrev plD (q : List Int) : PyData := .tuple (q.map .int)
theorem lay_spots : ∀ sp : List (List Int), PyData.canLayAll0 (sp.map plD) = true ∧ PyData.depthAll (sp.map plD) ≤ 1
  | [] => ⟨rfl, Nat.zero_le _⟩
  | q :: sp => by
    obtain ⟨h1, h2⟩ := lay_spots sp
    simp only [List.map_cons, PyData.canLayAll0, PyData.canLay0, ints_lay q, h1, PyData.depthAll, PyData.depth, ints_depth q, Bool.and_self]
    exact ⟨trivial, by omega⟩
theorem shaped_spots (sp : List (List Int)) : SeqAt.shaped (.list (sp.map plD)) = true := by
  obtain ⟨h1, h2⟩ := lay_spots sp
  show (PyData.canLay0 (.list (sp.map plD)) && decide (PyData.depth (.list (sp.map plD)) ≤ 64)) = true
  simp only [PyData.canLay0, PyData.depth, h1, Bool.true_and]
  exact decide_eq_true (by omega)
theorem any_spots (sp : List (List Int)) (q : List Int) : ((sp.map plD).any fun z => PyData.eqv z (plD q)) = decide (q ∈ sp) := by
  induction sp with
  | nil => rfl
  | cons a sp ih =>
    rw [List.map_cons, List.any_cons, ih]
    simp only [plD, PyData.eqv, eqv_ints, List.mem_cons, Bool.decide_or]
    congr 1
    exact decide_eq_decide.mpr ⟨fun e => e.symm, fun e => e.symm⟩
theorem all_nums : ∀ {ds : List PyData}, ((ds.map isNumD).all id) = true → ∃ q : List Int, ds = q.map .int
  | [], _ => ⟨[], rfl⟩
  | d :: ds, h => by
    simp only [List.map_cons, List.all_cons, Bool.and_eq_true, id] at h
    obtain ⟨q, rfl⟩ := all_nums h.2
    cases d with
    | int i => exact ⟨i :: q, rfl⟩
    | _ => cases h.1
theorem nums_all : ∀ q : List Int, (((q.map PyData.int).map isNumD).all id) = true
  | [] => rfl
  | _ :: q => nums_all q
theorem dpAll_places {K : PySem.W.Frag} {H : Hp} {vs : List V} {sp : List (List Int)} (h : PL K H vs sp) : DpAll K H vs (sp.map plD) := by
  unfold PL at h
  induction h with
  | nil => exact .nil
  | @cons p q ps qs hq t ih =>
    obtain ⟨a, rfl, ha⟩ := hq
    exact .cons (.tup ha (dp_ints q)) ih
structure OkX (d : PyData) : Prop where
  tup : ∀ ds, d = .tuple ds → tupAll ds = true ∧ okAll ds = true ∧ ds.length ≤ 1000
theorem plD_inj {a b : List Int} (h : plD a = plD b) : a = b := by
  injection h with h
  exact (List.map_inj_right fun _ _ e => PyData.int.inj e).mp h
section
variable {P : Program} {w : World} {K : PySem.W.Frag} {mg : Str → Option Value} {base : Heap}
def spPls (K : PySem.W.Frag) (C : Addr) : Sp := fun vs H Q _ => ∃ (H0 : Hp) (p : Addr) (cs : List (Str × Int)) (ls : List Str) (hs : List (Str × Int)) (rows : List PyData) (spots : List (List Int)), vs = [.ref p] ∧ Pf K H0 H p C cs ls hs rows spots ∧
  ∀ (l : Addr) (H' : Hp) (us : List V), Same H H' → H l = none → H' l = some (.lst us) → PL K H' us spots → Q (.ref l) H'
theorem ok_pplaces (T : Tp K w mg) : FnOk P w K mg base CX0 1 T.f_pplaces T.fd_pplaces ["self"] (spPls K T.C_Program) := by
  refine T.D_pplaces.ok sc_pplaces (fun vs H Q E h => ?_) (fun cdv A outer s H vs Q E hr h => ?_)
  · obtain ⟨H0, p, cs, ls, hs, rows, spots, rfl, _⟩ := h
    rfl
  · obtain ⟨H0, p, cs, ls, hs, rows, spots, rfl, G, q⟩ := h
    obtain ⟨dx, s, f, l, wd, b, us, hp, hb, hs', hPL, hf, hl, hw, _⟩ := G.ex
    refine ⟨_, (pss_one (ps_ret (pe_callTy call_list_of (by rfl) T.list (by decide +kernel) (pa_cons (pe_fld (pv 0) rfl) pa_nil)))), ?_⟩
    refine ⟨_, rfl, p, T.C_Program, dx, _, .ref s, rfl, hp, T.cl_Program, T.na_Program_spots, rfl, s, us, rfl, .inl (sl hs'), fun t nt => ?_⟩
    have st := same_upd (o := .lst us) nt
    exact q t _ us st nt upd_same (hPL.same st)
def spPrw (K : PySem.W.Frag) (C CE : Addr) : Sp := fun vs H Q E => ∃ (H0 : Hp) (p : Addr) (cs : List (Str × Int)) (ls : List Str) (hs : List (Str × Int)) (rows : List PyData) (spots : List (List Int)) (v : V) (d : PyData) (A : Addr → Prop), vs = [.ref p, v] ∧ Pf K H0 H p C cs ls hs rows spots ∧
  (∀ q ∈ spots, q.length ≤ 1000 ∧ ∃ x, At rows q x) ∧ Dx K A H v d ∧ OkX d ∧
  (∀ q x, d = plD q → q ∈ spots → At rows q x → ∀ v' H', Same H H' → Dp K H' v' x → Q v' H') ∧
  ((∀ q ∈ spots, d ≠ plD q) → ∀ (dd : Addr) (H1 : Hp), Same H H1 → H1 dd = none → E (.ref CE) (some dd) (upd H1 dd (.xd [("at", v)])))
theorem ok_prow (T : Tp K w mg) : FnOk P w K mg base (L2.CX P w) 4 T.f_prow T.fd_prow ["self", "place"] (spPrw K T.C_Program T.C_NoPlace) := by
  refine T.D_prow.okX sc_prow (fun vs H Q E h => ?_) (fun cdv A outer s H vs Q E hr h => ?_)
  · obtain ⟨H0, p, cs, ls, hs, rows, spots, v, d, AA, rfl, _⟩ := h
    rfl
  · obtain ⟨H0, p, cs, ls, hs, rows, spots, v, d, AA, rfl, G, hat, hd, okx, qr, qe⟩ := h
    obtain ⟨dx, s, f, l, wd, b, us, hp, hb, hs', hPL, hf, hl, hw, _⟩ := G.ex
    refine ⟨_, (pss_cons (ps_if (PW.pt (pw_or (pt_not (pt_val (pe_callB call_isi (by rfl) T.isinstance (by decide +kernel) (pa_cons (pv 1) (pa_cons (pe_bltn (v := .ty "tuple") (by rfl) T.tuple (by decide +kernel) rfl) pa_nil))))) (pw_or (pt_not (pt_val (pe_callB (cr_all rfl) (by rfl) T.all (by decide +kernel) (pa_cons (pe_lc (own := [("one", 2)]) (g := gName 2) (by rfl) sc_prow.nd (pi_tup (pv 1)) (blkOk_by (own := [("one", 2)]) (N := ["self", "place", "one"]) (sc := defScope s_prow) (by decide +kernel)) (fun _ _ _ _ _ => (pg_name (i := 2) sc_prow.nd rfl (.inl rfl))) (fun _ _ _ _ _ => pts_nil) (fun _ _ _ _ _ => (pcall T.D_isnum (ok_isnum T) (hr.mono (by omega)) (by rfl) (pa_cons (pv 2) pa_nil)))) pa_nil)))) (pw_or1 (pt_cmpR (op_notInD (HA.u65 hr)) (pv 1) (pe_fld (pv 0) rfl) (by rfl))))))
  (pss_one (ps_raise rfl (takes_of rfl rfl rfl rfl) (pmk_oex T.x_NoPlace T.i_NoPlace T.ti_NoPlace (ok_npl T) (hr.mono (by omega)) T.b_npl .nil pass0 (by rfl) T.gC_NoPlace (pa_cons (pv 1) pa_nil))))
  pss_nil)
  (pss_one (ps_ret (pcall T.D_rowat (ok_rowat T) (hr.mono (by omega)) (by rfl) (pa_cons (pe_fld (pv 0) rfl) (pa_cons (pv 1) pa_nil)))))), ?_⟩
    obtain ⟨ty, kin⟩ := dx_ty hd
    refine ⟨_, rfl, _, _, _, _, _, rfl, .ty "tuple", ty, kit_x (by decide) kin, _, rfl, ?_⟩
    by_cases ht : kindX d = "tuple"
    · refine ite0 (by rw [decide_eq_true ht]; rfl) ?_
      obtain ⟨ds, rfl⟩ : ∃ ds, d = .tuple ds := by cases d <;> first | exact ⟨_, rfl⟩ | (simp [kindX, kindD] at ht)
      obtain ⟨t1, t2, t3⟩ := okx.tup ds rfl
      obtain ⟨a, xs, rfl, hx, hall⟩ := dp_tup (hd.dp t1)
      have hlen := dpAll_len hall
      refine ⟨_, rfl, a, rfl, ⟨_, hx⟩, fun L nL => lc_it (walk_tup (xs := xs)) (fun i H2 => Same H H2 ∧ H2 L = some (.lst (((ds.take i).map isNumD).map V.bl))) ⟨same_upd nL, upd_same⟩ (fun i H2 _ g => g.1.sqt hx) ?_ ?_⟩
      · rintro i x H2 H3 hi ⟨sm, hL⟩ ⟨rfl, gx⟩
        have hi2 : i < ds.length := by omega
        obtain ⟨x', e1, e2⟩ := dp_at hall (List.getElem?_eq_getElem hi2)
        rw [gx] at e1
        cases e1
        refine ⟨rfl, _, rfl, x, ds[i], rfl, sm.dp e2, okAll_mem t2 _ (List.getElem_mem hi2), fun H5 s5 => ?_⟩
        refine ⟨_, s5 _ _ hL, ?_, (sm.trans s5).own nL, ?_⟩
        · rw [List.length_map, List.length_map]
          exact small1000 (Nat.le_trans (List.length_take_le _ _) (by omega))
        · rw [upd_same, List.take_add_one, List.getElem?_eq_getElem hi2, List.map_append, List.map_append]
          rfl
      · rintro H2 ⟨sm, hL⟩
        rw [hlen, List.take_length] at hL
        refine ⟨L, _, rfl, sl hL, _, rfl, ?_⟩
        cases hn : (ds.map isNumD).all id with
        | false =>
          refine ite1 rfl ⟨_, rfl, mkO_of fun dd nd => ?_⟩
          refine qe (fun q hq e => ?_) dd H2 sm nd
          injection e with e
          rw [e, nums_all] at hn
          cases hn
        | true =>
          refine ite0 rfl ?_
          obtain ⟨q, rfl⟩ := all_nums hn
          refine ⟨_, rfl, _, rfl, p, T.C_Program, dx, _, .ref s, rfl, sm _ _ hp, T.cl_Program, T.na_Program_spots, rfl, plD q, spots.map plD, sm.dp (hd.dp t1), .lst (sl (sm _ _ hs')) (dpAll_places (hPL.same sm)), shaped_ints q, shaped_spots spots, _, rfl, ?_⟩
          rw [any_spots]
          by_cases hq : q ∈ spots
          · refine ite0 (by rw [decide_eq_true hq]; rfl) ?_
            obtain ⟨l1, x, hx'⟩ := hat q hq
            have hdb := sm.dp hb
            obtain ⟨bb, bxs, rfl, hbx, hball⟩ := dp_tup hdb
            obtain ⟨aa, axs, e, hax, haall⟩ := dp_tup (sm.dp (hd.dp t1))
            cases e
            obtain rfl := dp_ints_inv haall
            refine ⟨_, rfl, p, T.C_Program, dx, _, .ref bb, rfl, sm _ _ hp, T.cl_Program, T.na_Program_tree, rfl, _, rfl, bb, a, rows, q, x, rfl, hdb, hax, hx', l1, fun v' H' s' hv' => ?_⟩
            exact qr q x rfl hq hx' v' H' (sm.trans s') hv'
          · refine ite1 (by rw [decide_eq_false hq]; rfl) ⟨_, rfl, mkO_of fun dd nd => ?_⟩
            exact qe (fun q' hq' e => hq (by rw [plD_inj e]; exact hq')) dd H2 sm nd
    · refine ite1 (by rw [decide_eq_false ht]; rfl) ⟨_, rfl, mkO_of fun dd nd => ?_⟩
      exact qe (fun q hq e => ht (by rw [e]; rfl)) dd H (Same.refl H) nd
end
end TP
namespace TP
open PySem PySem.Spec PyProof.Rows L2 HX HB HG HU HH HD HS HV HQ HK HN TL HM HP HR HO HC HF
/-! ### what a program tells of itself -/
section
variable {P : Program} {w : World} {K : PySem.W.Frag} {mg : Str → Option Value} {base : Heap}
def spPbody (K : PySem.W.Frag) (C : Addr) : Sp := fun vs H Q _ => ∃ (H0 : Hp) (p : Addr) (cs : List (Str × Int)) (ls : List Str) (hs : List (Str × Int)) (rows : List PyData) (spots : List (List Int)), vs = [.ref p] ∧ Pf K H0 H p C cs ls hs rows spots ∧ ∀ v, Dp K H v (.tuple rows) → Q v H
theorem ok_pbody (T : Tp K w mg) : FnOk P w K mg base CX0 1 T.f_pbody T.fd_pbody ["self"] (spPbody K T.C_Program) := by
  refine T.D_pbody.ok sc_pbody (fun vs H Q E h => ?_) (fun cdv A outer s H vs Q E hr h => ?_)
  · obtain ⟨H0, p, cs, ls, hs, rows, spots, rfl, _⟩ := h
    rfl
  · obtain ⟨H0, p, cs, ls, hs, rows, spots, rfl, G, q⟩ := h
    obtain ⟨dx, s, f, l, wd, b, us, hp, hb, hs', hPL, hf, hl, hw, _⟩ := G.ex
    refine ⟨_, (pss_one (ps_ret (pe_fld (pv 0) rfl))), ?_⟩
    exact ⟨_, rfl, p, T.C_Program, dx, _, b, rfl, hp, T.cl_Program, T.na_Program_tree, rfl, q b hb⟩
def spPcells (K : PySem.W.Frag) (C : Addr) : Sp := fun vs H Q _ => ∃ (H0 : Hp) (p : Addr) (cs : List (Str × Int)) (ls : List Str) (hs : List (Str × Int)) (rows : List PyData) (spots : List (List Int)), vs = [.ref p] ∧ Pf K H0 H p C cs ls hs rows spots ∧ ∀ D, H D = none → Q (.ref D) (upd H D (.dK (dI cs)))
theorem ok_pcells (T : Tp K w mg) : FnOk P w K mg base CX0 1 T.f_pcells T.fd_pcells ["self"] (spPcells K T.C_Program) := by
  refine T.D_pcells.ok sc_pcells (fun vs H Q E h => ?_) (fun cdv A outer s H vs Q E hr h => ?_)
  · obtain ⟨H0, p, cs, ls, hs, rows, spots, rfl, _⟩ := h
    rfl
  · obtain ⟨H0, p, cs, ls, hs, rows, spots, rfl, G, q⟩ := h
    obtain ⟨dx, s, f, l, wd, b, us, hp, hb, hs', hPL, hf, hl, hw, _⟩ := G.ex
    refine ⟨_, (pss_one (ps_ret (pe_callTy call_dictC (by rfl) T.dict (by decide +kernel) (pa_cons (pe_fld (pv 0) rfl) pa_nil)))), ?_⟩
    exact ⟨_, rfl, p, T.C_Program, dx, _, .ref f, rfl, hp, T.cl_Program, T.na_Program_first, rfl, f, _, rfl, .inl hf, q⟩
def spPchans (K : PySem.W.Frag) (C : Addr) : Sp := fun vs H Q _ => ∃ (H0 : Hp) (p : Addr) (cs : List (Str × Int)) (ls : List Str) (hs : List (Str × Int)) (rows : List PyData) (spots : List (List Int)), vs = [.ref p] ∧ Pf K H0 H p C cs ls hs rows spots ∧ ∀ D, H D = none → Q (.ref D) (upd H D (.dK (dI hs)))
theorem ok_pchans (T : Tp K w mg) : FnOk P w K mg base CX0 1 T.f_pchans T.fd_pchans ["self"] (spPchans K T.C_Program) := by
  refine T.D_pchans.ok sc_pchans (fun vs H Q E h => ?_) (fun cdv A outer s H vs Q E hr h => ?_)
  · obtain ⟨H0, p, cs, ls, hs, rows, spots, rfl, _⟩ := h
    rfl
  · obtain ⟨H0, p, cs, ls, hs, rows, spots, rfl, G, q⟩ := h
    obtain ⟨dx, s, f, l, wd, b, us, hp, hb, hs', hPL, hf, hl, hw, _⟩ := G.ex
    refine ⟨_, (pss_one (ps_ret (pe_callTy call_dictC (by rfl) T.dict (by decide +kernel) (pa_cons (pe_fld (pv 0) rfl) pa_nil)))), ?_⟩
    exact ⟨_, rfl, p, T.C_Program, dx, _, .ref wd, rfl, hp, T.cl_Program, T.na_Program_widths, rfl, wd, _, rfl, .inl hw, q⟩
def spPlocks (K : PySem.W.Frag) (C : Addr) : Sp := fun vs H Q _ => ∃ (H0 : Hp) (p : Addr) (cs : List (Str × Int)) (ls : List Str) (hs : List (Str × Int)) (rows : List PyData) (spots : List (List Int)), vs = [.ref p] ∧ Pf K H0 H p C cs ls hs rows spots ∧ ∀ D, H D = none → Q (.ref D) (upd H D (.lst (ls.map V.str)))
theorem ok_plocks (T : Tp K w mg) : FnOk P w K mg base CX0 1 T.f_plocks T.fd_plocks ["self"] (spPlocks K T.C_Program) := by
  refine T.D_plocks.ok sc_plocks (fun vs H Q E h => ?_) (fun cdv A outer s H vs Q E hr h => ?_)
  · obtain ⟨H0, p, cs, ls, hs, rows, spots, rfl, _⟩ := h
    rfl
  · obtain ⟨H0, p, cs, ls, hs, rows, spots, rfl, G, q⟩ := h
    obtain ⟨dx, s, f, l, wd, b, us, hp, hb, hs', hPL, hf, hl, hw, _⟩ := G.ex
    refine ⟨_, (pss_one (ps_ret (pe_callTy call_list_of (by rfl) T.list (by decide +kernel) (pa_cons (pe_fld (pv 0) rfl) pa_nil)))), ?_⟩
    exact ⟨_, rfl, p, T.C_Program, dx, _, .ref l, rfl, hp, T.cl_Program, T.na_Program_bolts, rfl, l, _, rfl, .inl (sl hl), q⟩
def spPlen (K : PySem.W.Frag) (C : Addr) : Sp := fun vs H Q _ => ∃ (H0 : Hp) (p : Addr) (cs : List (Str × Int)) (ls : List Str) (hs : List (Str × Int)) (rows : List PyData) (spots : List (List Int)), vs = [.ref p] ∧ Pf K H0 H p C cs ls hs rows spots ∧ Q (.int (spots.length : Nat)) H
theorem ok_plen (T : Tp K w mg) : FnOk P w K mg base CX0 1 T.f_plen T.fd_plen ["self"] (spPlen K T.C_Program) := by
  refine T.D_plen.ok sc_plen (fun vs H Q E h => ?_) (fun cdv A outer s H vs Q E hr h => ?_)
  · obtain ⟨H0, p, cs, ls, hs, rows, spots, rfl, _⟩ := h
    rfl
  · obtain ⟨H0, p, cs, ls, hs, rows, spots, rfl, G, q⟩ := h
    obtain ⟨dx, s, f, l, wd, b, us, hp, hb, hs', hPL, hf, hl, hw, _⟩ := G.ex
    refine ⟨_, (pss_one (ps_ret (pe_callB call_len_seq (by rfl) T.len PySem.boot_len (pa_cons (pe_fld (pv 0) rfl) pa_nil)))), ?_⟩
    have e : us.length = spots.length := Paired.length hPL
    refine ⟨_, rfl, p, T.C_Program, dx, _, .ref s, rfl, hp, T.cl_Program, T.na_Program_spots, rfl, s, _, rfl, .inl (sl hs'), ?_⟩
    rw [e]
    exact q
/-- what == answers of two programs -/
def sameP (cs cs' : List (Str × Int)) (ls ls' : List Str) (hs hs' : List (Str × Int)) (rows rows' : List PyData) : Bool :=
  PyData.eqv (.tuple rows) (.tuple rows') && (dictEq (dI cs) (dI cs') && (PyData.eqv (.list (ls.map .str)) (.list (ls'.map .str)) && (dictEq (dI hs) (dI hs') && true)))
theorem dI_flat {cs : List (Str × Int)} : ∀ p ∈ dI cs, flatV p.2 = true := by
  intro p hp
  unfold dI at hp
  obtain ⟨q, _, rfl⟩ := List.mem_map.mp hp
  rfl
/-- two programs that stand, apart -/
structure Two (K : PySem.W.Frag) (H : Hp) (C p q : Addr) (cs cs' : List (Str × Int)) (ls ls' : List Str) (hs hs' : List (Str × Int)) (rows rows' : List PyData) : Prop where
  ex : ∃ (dx s f l w : Addr) (b : V) (dx' s' f' l' w' : Addr) (b' : V), H p = some (.ins C dx [("spots", .ref s), ("tree", b), ("first", .ref f), ("bolts", .ref l), ("widths", .ref w)]) ∧ Dp K H b (.tuple rows) ∧ H f = some (.dK (dI cs)) ∧ H l = some (.lst (ls.map V.str)) ∧ H w = some (.dK (dI hs)) ∧
    H q = some (.ins C dx' [("spots", .ref s'), ("tree", b'), ("first", .ref f'), ("bolts", .ref l'), ("widths", .ref w')]) ∧ Dp K H b' (.tuple rows') ∧ H f' = some (.dK (dI cs')) ∧ H l' = some (.lst (ls'.map V.str)) ∧ H w' = some (.dK (dI hs')) ∧ f ≠ f' ∧ w ≠ w'
theorem Two.of1 {K : PySem.W.Frag} {H0 H1 H : Hp} {C p q : Addr} {cs cs' : List (Str × Int)} {ls ls' : List Str} {hs hs' : List (Str × Int)} {rows rows' : List PyData} {spots spots' : List (List Int)} (G1 : Pf K H0 H1 p C cs ls hs rows spots) (s1 : Same H1 H) (G2 : Pf K H1 H q C cs' ls' hs' rows' spots') : Two K H C p q cs cs' ls ls' hs hs' rows rows' := by
  obtain ⟨dx, s, f, l, wd, b, us, hp, hb, hsp, hPL, hf, hl, hw, _⟩ := G1.ex
  obtain ⟨dx', s', f', l', wd', b', us', hp', hb', hsp', hPL', hf', hl', hw', n1, n2, n3, n4, n5⟩ := G2.ex
  exact ⟨dx, s, f, l, wd, b, dx', s', f', l', wd', b', s1 _ _ hp, s1.dp hb, s1 _ _ hf, s1 _ _ hl, s1 _ _ hw, hp', hb', hf', hl', hw', (fun e => by rw [e, n3] at hf; cases hf), (fun e => by rw [e, n5] at hw; cases hw)⟩
theorem Two.of2 {K : PySem.W.Frag} {H0 H1 H : Hp} {C p q : Addr} {cs cs' : List (Str × Int)} {ls ls' : List Str} {hs hs' : List (Str × Int)} {rows rows' : List PyData} {spots spots' : List (List Int)} (G1 : Pf K H0 H1 q C cs' ls' hs' rows' spots') (s1 : Same H1 H) (G2 : Pf K H1 H p C cs ls hs rows spots) : Two K H C p q cs cs' ls ls' hs hs' rows rows' := by
  obtain ⟨dx', s', f', l', wd', b', us', hp', hb', hsp', hPL', hf', hl', hw', _⟩ := G1.ex
  obtain ⟨dx, s, f, l, wd, b, us, hp, hb, hsp, hPL, hf, hl, hw, n1, n2, n3, n4, n5⟩ := G2.ex
  exact ⟨dx, s, f, l, wd, b, dx', s', f', l', wd', b', hp, hb, hf, hl, hw, s1 _ _ hp', s1.dp hb', s1 _ _ hf', s1 _ _ hl', s1 _ _ hw', (fun e => by rw [← e, n3] at hf'; cases hf'), (fun e => by rw [← e, n5] at hw'; cases hw')⟩
def spPeq (K : PySem.W.Frag) (C : Addr) : Sp := fun vs H Q _ => ∃ (p q : Addr), vs = [.ref p, .ref q] ∧
  ((∃ (cs cs' : List (Str × Int)) (ls ls' : List Str) (hs hs' : List (Str × Int)) (rows rows' : List PyData), Two K H C p q cs cs' ls ls' hs hs' rows rows' ∧ SeqAt.shaped (.tuple rows) = true ∧ SeqAt.shaped (.tuple rows') = true ∧ SeqAt.shaped (.list (ls.map .str)) = true ∧ SeqAt.shaped (.list (ls'.map .str)) = true ∧
      ∀ H', Same H H' → Q (.bl (sameP cs cs' ls ls' hs hs' rows rows')) H') ∨
    (∃ ys, SqT K H q ys) ∧ Q (.bl false) H)
theorem ok_peq (T : Tp K w mg) : FnOk P w K mg base CX0 6 T.f_peq T.fd_peq ["self", "other"] (spPeq K T.C_Program) := by
  refine T.D_peq.ok sc_peq (fun vs H Q E h => ?_) (fun cdv A outer s H vs Q E hr h => ?_)
  · obtain ⟨p, q, rfl, _⟩ := h
    rfl
  · obtain ⟨p, q, rfl, h⟩ := h
    refine ⟨_, (pss_cons (ps_if (pt_not (pt_val (pe_callB call_isi (by rfl) T.isinstance (by decide +kernel) (pa_cons (pv 1) (pa_cons (pe_gr (by rfl) T.gC_Program) pa_nil)))))
  (pss_one (ps_ret pe_bl))
  pss_nil)
  (pss_cons (ps_set (i := 2) sc_peq.nd rfl (.inl rfl) (pe_tup (pa_cons (pe_fld (pv 0) rfl) (pa_cons (pe_fld (pv 0) rfl) (pa_cons (pe_fld (pv 0) rfl) (pa_cons (pe_fld (pv 0) rfl) pa_nil))))))
  (pss_one (ps_ret (pe_cmpR (HF.op_eqM (HF.u70 hr)) (pv 2) (pe_tup (pa_cons (pe_fld (pv 1) rfl) (pa_cons (pe_fld (pv 1) rfl) (pa_cons (pe_fld (pv 1) rfl) (pa_cons (pe_fld (pv 1) rfl) pa_nil))))) (nomark _)))))), ?_⟩
    rcases h with ⟨cs, cs', ls, ls', hs, hs', rows, rows', G, h1, h2, h3, h4, qq⟩ | ⟨⟨ys, hy⟩, qq⟩
    · obtain ⟨dx, s, f, l, wd, b, dx', s', f', l', wd', b', hp, hb, hf, hl, hw, hp', hb', hf', hl', hw', ne1, ne2⟩ := G.ex
      refine ⟨_, rfl, _, _, _, _, true, rfl, .own T.C_Program, .base (.ins hp' T.cl_Program T.oc_Program.ha T.oc_Program.hn T.oc_Program.tk T.oc_Program.ob), if_pos (by simp), _, rfl, ite0 rfl ?_⟩
      refine ⟨_, rfl, p, T.C_Program, dx, _, b, rfl, hp, T.cl_Program, T.na_Program_tree, rfl, _, rfl, p, T.C_Program, dx, _, .ref f, rfl, hp, T.cl_Program, T.na_Program_first, rfl, _, rfl, p, T.C_Program, dx, _, .ref l, rfl, hp, T.cl_Program, T.na_Program_bolts, rfl, _, rfl, p, T.C_Program, dx, _, .ref wd, rfl, hp, T.cl_Program, T.na_Program_widths, rfl, by show 4 ≤ sizeLine; decide, fun t nt => ?_⟩
      have s2 := same_upd (o := .tup [b, .ref f, .ref l, .ref wd]) nt
      have ht : (upd H t (.tup [b, .ref f, .ref l, .ref wd])) t = some (.tup [b, .ref f, .ref l, .ref wd]) := upd_same
      show gName 2 _ _ (upd H t (.tup [b, .ref f, .ref l, .ref wd])) _
      generalize upd H t (.tup [b, .ref f, .ref l, .ref wd]) = H2 at s2 ht ⊢
      have hp2 := s2 _ _ hp'
      refine ⟨_, rfl, _, rfl, q, T.C_Program, dx', _, b', rfl, hp2, T.cl_Program, T.na_Program_tree, rfl, _, rfl, q, T.C_Program, dx', _, .ref f', rfl, hp2, T.cl_Program, T.na_Program_first, rfl, _, rfl, q, T.C_Program, dx', _, .ref l', rfl, hp2, T.cl_Program, T.na_Program_bolts, rfl, _, rfl, q, T.C_Program, dx', _, .ref wd', rfl, hp2, T.cl_Program, T.na_Program_widths, rfl, by show 4 ≤ sizeLine; decide, fun t2 nt2 => ?_⟩
      have s3 := same_upd (o := .tup [b', .ref f', .ref l', .ref wd']) nt2
      have ht2 : (upd H2 t2 (.tup [b', .ref f', .ref l', .ref wd'])) t2 = some (.tup [b', .ref f', .ref l', .ref wd']) := upd_same
      generalize upd H2 t2 (.tup [b', .ref f', .ref l', .ref wd']) = H3 at s3 ht2 ⊢
      have s23 := s2.trans s3
      have zsd : ∀ zs : List Str, DpAll K H3 (zs.map V.str) (zs.map .str) := fun zs => by
        induction zs with
        | nil => exact .nil
        | cons z zs ih => exact .cons (.str z) ih
      refine ⟨t, t2, _, _, [PyData.eqv (.tuple rows) (.tuple rows'), dictEq (dI cs) (dI cs'), PyData.eqv (.list (ls.map .str)) (.list (ls'.map .str)), dictEq (dI hs) (dI hs')], rfl, rfl, stt (s3 _ _ ht), stt ht2, rfl, rfl, fun j x y e hx hy he => ?_, qq H3 s23⟩
      match j, hx, hy, he with
      | 0, hx, hy, he =>
        cases hx; cases hy; cases he
        exact .data (s23.dp hb) (s23.dp hb') h1 h2
      | 1, hx, hy, he =>
        cases hx; cases hy; cases he
        exact .dict ne1 (s23 _ _ hf) (s23 _ _ hf') dI_flat dI_flat
      | 2, hx, hy, he =>
        cases hx; cases hy; cases he
        exact .data (.lst (sl (s23 _ _ hl)) (zsd ls)) (.lst (sl (s23 _ _ hl')) (zsd ls')) h3 h4
      | 3, hx, hy, he =>
        cases hx; cases hy; cases he
        exact .dict ne2 (s23 _ _ hw) (s23 _ _ hw') dI_flat dI_flat
      | n + 4, hx, hy, he => simp at hx
    · refine ⟨_, rfl, _, _, _, _, false, rfl, .own T.C_Program, ?_, T.oc_Program.tup, _, rfl, ite1 rfl qq⟩
      rcases hy with (h | ⟨o, h⟩) | ⟨o, its, n, h, c, _⟩
      · exact .base (.tup h)
      · exact .fTuple h
      · exact .kTuple h c
end
end TP
namespace TP
open PySem PySem.Spec PyProof.Rows L2 HX HB HG HU HH HD HS HV HQ HK HN TL HM HP HR HO HC HF
/-! ### alike data -/
mutual
theorem eqv_refl : ∀ {d : PyData}, tupD d = true → PyData.eqv d d = true
  | .none, _ => rfl
  | .bool b, _ => by show (b == b) = true; simp
  | .int i, _ => by show (i == i) = true; simp
  | .str z, _ => by show (z == z) = true; simp
  | .tuple xs, h => eqvAll_refl (xs := xs) h
  | .list xs, h => by cases h
  | .dict xs, h => by cases h
theorem eqvAll_refl : ∀ {xs : List PyData}, tupAll xs = true → PyData.eqvAll xs xs = true
  | [], _ => rfl
  | x :: xs, h => by
    simp only [tupAll, Bool.and_eq_true] at h
    show (PyData.eqv x x && PyData.eqvAll xs xs) = true
    rw [eqv_refl h.1, eqvAll_refl h.2]
    rfl
end
theorem eqv_strs : ∀ xs ys : List Str, PyData.eqvAll (xs.map .str) (ys.map .str) = decide (xs = ys)
  | [], [] => rfl
  | [], _ :: _ => rfl
  | _ :: _, [] => rfl
  | x :: xs, y :: ys => by
    have h : PyData.eqvAll ((x :: xs).map .str) ((y :: ys).map .str) = (PyData.eqv (.str x) (.str y) && PyData.eqvAll (xs.map .str) (ys.map .str)) := rfl
    rw [h, eqv_strs xs ys]
    have : PyData.eqv (.str x) (.str y) = decide (x = y) := by
      show (x == y) = _
      by_cases e : x = y
      · rw [e, beq_self_eq_true, decide_eq_true rfl]
      · rw [decide_eq_false e]; exact beq_eq_false_iff_ne.mpr e
    rw [this, ← Bool.decide_and]
    exact decide_eq_decide.mpr ⟨fun h => by rw [h.1, h.2], fun h => List.cons.inj h⟩
theorem tup_spots : ∀ sp : List (List Int), tupAll (sp.map plD) = true
  | [] => rfl
  | q :: sp => by
    show (tupAll (q.map .int) && tupAll (sp.map plD)) = true
    rw [tup_ints, tup_spots sp]
    rfl
theorem zs_dp {K : PySem.W.Frag} {H : Hp} : ∀ zs : List Str, DpAll K H (zs.map V.str) (zs.map .str)
  | [] => .nil
  | z :: zs => .cons (.str z) (zs_dp zs)
theorem paired_at {α β : Type} {F : α → β → Prop} : ∀ {l : List α} {m : List β}, Paired F l m → ∀ {i : Nat} {x : α}, l[i]? = some x → ∃ y, m[i]? = some y ∧ F x y
  | _, _, .cons h _, 0, _, e => ⟨_, rfl, by cases e; exact h⟩
  | _, _, .cons _ t, i + 1, _, e => paired_at t (by simpa using e)
  | _, _, .nil, i, _, e => by simp at e
theorem places_len_le : ∀ (n : Nat) (rows : List PyData) (place p : List Int), p ∈ placesD n rows place → p.length ≤ place.length + 2 * n
  | 0, _, _, _, h => by cases h
  | n + 1, rows, place, p, h => by
    obtain ⟨k, row, hk, hp⟩ := mem_flatF (show p ∈ flatF _ 0 rows from h)
    rcases List.mem_cons.mp hp with rfl | hp
    · rw [List.length_append, List.length_singleton]; omega
    · obtain ⟨j, b, hj, hp⟩ := mem_flatF hp
      have := places_len_le n _ _ p hp
      simp only [List.length_append, List.length_singleton] at this
      omega
theorem okAll_ints : ∀ q : List Int, okAll (q.map .int) = true
  | [] => rfl
  | i :: q => by
    show (okD (.int i) && okAll (q.map .int)) = true
    rw [okAll_ints q]
    rfl
/-- a dict that tells where cells, locks and channels are -/
structure Head (H : Hp) (pl C L Ch : Addr) (cs : List (Str × Int)) (ls : List Str) (hs : List (Str × Int)) : Prop where
  c : ∀ H', Same H H' → DGet H' pl (.str "cells") (some (.ref C))
  l : ∀ H', Same H H' → DGet H' pl (.str "locks") (some (.ref L))
  h : ∀ H', Same H H' → DGet H' pl (.str "channels") (some (.ref Ch))
  hC : H C = some (.dK (dI cs))
  hL : H L = some (.lst (ls.map V.str))
  hCh : H Ch = some (.dK (dI hs))
/-! ### names by membership alone -/
section
variable {cs cs' ls ls' hs hs' : List Str}
theorem part_cong (h1 : ∀ z, z ∈ cs ↔ z ∈ cs') (h2 : ∀ z, z ∈ ls ↔ z ∈ ls') (h3 : ∀ z, z ∈ hs ↔ z ∈ hs') : isPartD cs ls hs = isPartD cs' ls' hs' := by
  funext ps kind d
  have e : ∀ z, namePart kind z cs ls hs ps = namePart kind z cs' ls' hs' ps := fun z => by
    unfold namePart
    rw [decide_eq_decide.mpr (h1 z), decide_eq_decide.mpr (h2 z), decide_eq_decide.mpr (h3 z)]
  unfold isPartD
  simp only [e]
theorem row_cong (h1 : ∀ z, z ∈ cs ↔ z ∈ cs') (h2 : ∀ z, z ∈ ls ↔ z ∈ ls') (h3 : ∀ z, z ∈ hs ↔ z ∈ hs') : isRowD cs ls hs = isRowD cs' ls' hs' := by
  funext ps d
  unfold isRowD
  simp only [part_cong h1 h2 h3]
theorem wrong_cong (h1 : ∀ z, z ∈ cs ↔ z ∈ cs') (h2 : ∀ z, z ∈ ls ↔ z ∈ ls') (h3 : ∀ z, z ∈ hs ↔ z ∈ hs') : ∀ n, wrongD cs ls hs n = wrongD cs' ls' hs' n
  | 0 => rfl
  | n + 1 => by
    funext rows place ps oft
    simp only [wrongD, row_cong h1 h2 h3, wrong_cong h1 h2 h3 n]
end
/-! ### right rows -/
structure Rt2 (cn ls hn : List Str) (rows : List PyData) : Prop where
  w : wrongD cn ls hn 22 rows [] [] 0 = none
  c : cntD 22 rows ≤ 60
  g : Good (.tuple rows) 22
  t : tupAll rows = true
theorem Rt2.of {cn ls hn : List Str} {rows : List PyData} {m : Nat} (h : Rows cn ls hn [] 0 0 rows m) (h60 : m ≤ 60) (l : rows.length ≤ 1000) : Rt2 cn ls hn rows :=
  ⟨h.right 21 [] (by decide) rfl, by rw [h.cnt 21 (by decide)]; exact h60, (h.good1 (by omega)).mono (by decide), h.tup⟩
theorem Rt2.cong {cn cn' ls ls' hn hn' : List Str} {rows : List PyData} (h : Rt2 cn ls hn rows) (h1 : ∀ z, z ∈ cn ↔ z ∈ cn') (h2 : ∀ z, z ∈ ls ↔ z ∈ ls') (h3 : ∀ z, z ∈ hn ↔ z ∈ hn') : Rt2 cn' ls' hn' rows :=
  ⟨by rw [← wrong_cong h1 h2 h3]; exact h.w, h.c, h.g, h.t⟩
theorem firstSome_pre {α β : Type} {f : Nat → α → Option β} : ∀ {xs ys : List α} {i : Nat}, firstSome f i (xs ++ ys) = none → firstSome f i xs = none
  | [], _, _, _ => rfl
  | x :: xs, ys, i, h => by
    simp only [List.cons_append, firstSome] at h ⊢
    cases e : f i x with
    | some b => rw [e] at h; cases h
    | none => rw [e] at h; exact firstSome_pre h
theorem Rt2.pre {cn ls hn : List Str} {xs ys : List PyData} (h : Rt2 cn ls hn (xs ++ ys)) : Rt2 cn ls hn xs := by
  refine ⟨?_, ?_, ?_, ?_⟩
  · have := h.w
    rw [wrong_succ] at this ⊢
    exact firstSome_pre this
  · have := h.c
    rw [cnt_app] at this
    omega
  · have l : (xs ++ ys).length ≤ 10000 := by
      have := h.g.ok
      simp only [okD, Bool.and_eq_true, decide_eq_true_eq] at this
      exact this.1
    rw [List.length_append] at l
    exact Good.tup (n := 21) (fun x hx => h.g.item (List.mem_append_left _ hx)) (by omega)
  · have := h.t
    have aux : ∀ (xs ys : List PyData), tupAll (xs ++ ys) = true → tupAll xs = true := by
      intro xs
      induction xs with
      | nil => intro _ _; rfl
      | cons x xs ih =>
        intro ys h
        have h : (tupD x && tupAll (xs ++ ys)) = true := h
        rw [Bool.and_eq_true] at h
        show (tupD x && tupAll xs) = true
        rw [h.1, ih ys h.2]
        rfl
    exact aux xs ys this
abbrev putRow : PyData := .tuple [.str "put", .str "a", .int 0]
theorem Rt2.put {cn ls hn : List Str} : Rt2 cn ls hn [putRow] := by
  refine ⟨?_, by decide +kernel, ⟨by decide +kernel, by decide +kernel, by decide +kernel⟩, by decide +kernel⟩
  rw [wrong_one]
  have hk : kindsOf "put" = some (["name", "calc"] : List Str) := by decide +kernel
  have h1 : isPartD cn ls hn [] "name" (.str "a") = true := by
    unfold isPartD
    rw [if_neg (by decide +kernel), if_neg (by decide +kernel), show rangeOf "name" = none by decide +kernel]
    show (isNameL "a" && namePart "name" "a" cn ls hn []) = true
    unfold namePart
    rw [if_neg (by decide +kernel), if_neg (by decide +kernel), if_neg (by decide +kernel), if_neg (by decide +kernel), show isNameL "a" = true by decide +kernel, show decide (("name" : Str) = "name") = true by decide +kernel]
    rfl
  have h2 : isPartD cn ls hn [] "calc" (.int 0) = true := by
    unfold isPartD
    rw [if_pos rfl]
    rfl
  have hr : isRowD cn ls hn [] putRow = true := by
    simp only [isRowD, hk, List.zip_cons_cons, List.zip_nil_right, List.all_cons, List.all_nil, h1, h2, List.length_cons, List.length_nil]
    rfl
  unfold rowF
  rw [if_neg (by rw [hr]; simp), if_neg (by decide +kernel)]
  have : bodiesD putRow = [] := by decide +kernel
  rw [this]
  rfl
/-! ### dicts alike and not -/
theorem look_dI : ∀ {cs : List (Str × Int)} {q : Str × Int}, (cs.map (·.1)).Nodup → q ∈ cs → valV (dI cs) (Sum.inr q.1 : Key) = some (.int q.2)
  | p :: cs, q, nd, h => by
    rw [List.map_cons, List.nodup_cons] at nd
    show ((List.find? (fun kv => decide (kv.1 = Sum.inr q.1)) ((Sum.inr p.1, V.int p.2) :: dI cs)).map (·.2)) = _
    by_cases e : p.1 = q.1
    · rw [List.find?_cons_of_pos (by simp [e])]
      rcases List.mem_cons.mp h with rfl | h
      · rfl
      · exact absurd (e ▸ List.mem_map_of_mem h) nd.1
    · rw [List.find?_cons_of_neg (by simp [e])]
      rcases List.mem_cons.mp h with rfl | h
      · exact absurd rfl e
      · exact look_dI nd.2 h
theorem dictEq_same {as bs : List (Str × Int)} (nd : (bs.map (·.1)).Nodup) (l : as.length = bs.length) (h : ∀ q ∈ as, q ∈ bs) : dictEq (dI as) (dI bs) = true := by
  unfold dictEq
  have e : (dI as).length = (dI bs).length := by unfold dI; rw [List.length_map, List.length_map, l]
  rw [e, beq_self_eq_true, Bool.true_and, List.all_eq_true]
  intro p hp
  unfold dI at hp
  obtain ⟨q, hq, rfl⟩ := List.mem_map.mp hp
  dsimp only
  rw [look_dI nd (h q hq)]
  show (q.2 == q.2) = true
  simp
theorem dictEq_other {as bs : List (Str × Int)} (nd : (bs.map (·.1)).Nodup) {q q' : Str × Int} (h1 : q ∈ as) (h2 : q' ∈ bs) (e : q.1 = q'.1) (n : q.2 ≠ q'.2) : dictEq (dI as) (dI bs) = false := by
  unfold dictEq
  rw [Bool.and_eq_false_iff]
  right
  rw [List.all_eq_false]
  refine ⟨(Sum.inr q.1, V.int q.2), by unfold dI; exact List.mem_map.mpr ⟨q, h1, rfl⟩, ?_⟩
  dsimp only
  rw [e, look_dI nd h2]
  show ¬ (q.2 == q'.2) = true
  simp [n]
theorem eqvAll_len : ∀ {xs ys : List PyData}, PyData.eqvAll xs ys = true → xs.length = ys.length
  | [], [], _ => rfl
  | [], _ :: _, h => by cases h
  | _ :: _, [], h => by cases h
  | x :: xs, y :: ys, h => by
    have h : (PyData.eqv x y && PyData.eqvAll xs ys) = true := h
    rw [Bool.and_eq_true] at h
    rw [List.length_cons, List.length_cons, eqvAll_len h.2]
theorem rev_eq {zs : List Str} (nd : zs.Nodup) : decide (zs = zs.reverse) = decide (zs.length < 2) := by
  refine decide_eq_decide.mpr ⟨fun e => ?_, fun h => ?_⟩
  · match zs, nd, e with
    | [], _, _ => decide
    | [a], _, _ => simp
    | a :: b :: t, nd, e =>
      exfalso
      have h1 : (a :: b :: t).getLast (by simp) = a := by
        have : ((a :: b :: t).reverse).head (by simp) = a := by
          have e2 := e
          simp only [← e2]
          rfl
        rw [List.head_reverse] at this
        exact this
      have h2 : a ∈ b :: t := by
        rw [List.getLast_cons (by simp)] at h1
        rw [← h1]
        exact List.getLast_mem _
      exact (List.nodup_cons.mp nd).1 h2
  · match zs, h with
    | [], _ => rfl
    | [a], _ => rfl
theorem nodup_rev {α : Type} {l : List α} (h : l.Nodup) : l.reverse.Nodup := List.pairwise_reverse.mpr (List.Pairwise.imp (fun h e => h e.symm) h)
theorem Sz.rev {cs : List (Str × Int)} {l u : Int} (h : Sz cs l u) : Sz cs.reverse l u :=
  ⟨fun q hq => h.names q (List.mem_reverse.mp hq), by rw [List.map_reverse]; exact nodup_rev h.nd, by rw [List.length_reverse]; exact h.few, fun q hq => h.rng q (List.mem_reverse.mp hq)⟩
/-- a number changed -/
def chg (cs : List (Str × Int)) (z : Str) (v : Int) : List (Str × Int) := cs.map fun q => if q.1 = z then (q.1, v) else q
theorem chg_fst {cs : List (Str × Int)} {z : Str} {v : Int} : (chg cs z v).map (·.1) = cs.map (·.1) := by
  unfold chg
  rw [List.map_map]
  refine List.map_congr_left fun q _ => ?_
  show (if q.1 = z then (q.1, v) else q).1 = q.1
  split <;> rfl
theorem Sz.chg {cs : List (Str × Int)} {l u : Int} (h : Sz cs l u) {z : Str} {v : Int} (h1 : l ≤ v) (h2 : v ≤ u) : Sz (TP.chg cs z v) l u := by
  refine ⟨fun q hq => ?_, by rw [chg_fst]; exact h.nd, by unfold TP.chg; rw [List.length_map]; exact h.few, fun q hq => ?_⟩
  · unfold TP.chg at hq
    obtain ⟨p, hp, rfl⟩ := List.mem_map.mp hq
    split
    · exact h.names p hp
    · exact h.names p hp
  · unfold TP.chg at hq
    obtain ⟨p, hp, rfl⟩ := List.mem_map.mp hq
    split
    · exact ⟨h1, h2⟩
    · exact h.rng p hp
theorem put_chg {cs : List (Str × Int)} {z : Str} {v : Int} (h : z ∈ cs.map (·.1)) : putK (dI cs) (Sum.inr z : Key) (.int v) = dI (chg cs z v) := by
  unfold putK
  rw [if_pos ?_]
  · unfold dI chg
    rw [List.map_map, List.map_map]
    refine List.map_congr_left fun q _ => ?_
    show (if (Sum.inr q.1 : Key) = Sum.inr z then (Sum.inr q.1, V.int v) else (Sum.inr q.1, V.int q.2)) = _
    by_cases e : q.1 = z
    · rw [if_pos (by rw [e])]
      show _ = (Sum.inr (if q.1 = z then (q.1, v) else q).1, V.int (if q.1 = z then (q.1, v) else q).2)
      rw [if_pos e]
    · rw [if_neg (fun h => e (Sum.inr.inj h))]
      show _ = (Sum.inr (if q.1 = z then (q.1, v) else q).1, V.int (if q.1 = z then (q.1, v) else q).2)
      rw [if_neg e]
  · rw [List.any_eq_true]
    obtain ⟨q, hq, rfl⟩ := List.mem_map.mp h
    exact ⟨(Sum.inr q.1, V.int q.2), by unfold dI; exact List.mem_map.mpr ⟨q, hq, rfl⟩, by simp⟩
/-! ### a program made -/
theorem made2 {K : PySem.W.Frag} {cs : List (Str × Int)} {ls : List Str} {hs : List (Str × Int)} {rows : List PyData} {H : Hp} {v vc vl vw : V} {C CE x dx : Addr} {Q : VK} {E : XK} (S1 : Sz cs (-99) 99) (hlk : locksD ls = true) (hll : ∀ z ∈ ls, isNameL z = true) (lf : ls.length ≤ 4) (S2 : Sz hs 1 4) (R : Rt2 (cs.map (·.1)) ls (hs.map (·.1)) rows)
    (hd : Dp K H v (.tuple rows)) (hC : ArgD H vc cs) (hL : ArgL H vl ls) (hCh : ArgD H vw hs) (nx : H x = none) (ndx : H dx = none) (q : ∀ H', Same H H' → Pf K H H' x C cs ls hs rows (placesD 22 rows []) → Q .non H') : spProg K 22 C CE [.ref x, v, vc, vl, vw] (upd (upd H dx (.own x)) x (.ins C dx [])) Q E := by
  have sc : Same H (upd (upd H dx (.own x)) x (.ins C dx [])) := ((Same.refl H).own ndx).own nx
  have eP : (placesD 22 rows []).length ≤ 60 := by rw [places_len]; exact R.c
  have eF : firstD (cs.map (·.1)) ls (hs.map (·.1)) 22 (.tuple rows) = none := R.w
  have eN : progD 22 cs ls hs (.tuple rows) = none := by
    unfold progD
    rw [S1.sizes, hlk, S2.sizes, eF]
    exact if_pos eP
  refine ⟨x, dx, v, .tuple rows, vc, vl, vw, cs, ls, hs, rfl, upd_same, sc.dp hd, R.g, hC.same sc, S1.okd, hL.same sc, by omega, fun z hz => (Low.of (hll z hz)).ok, hCh.same sc, S2.okd, Evl.sz_of (by show (placesD 22 rows []).length ≤ _; omega), fun H' v1 => ?_⟩
  rw [eN]
  intro O
  exact q H' (Same.V1 nx ndx v1) (Pf.made nx ndx O hd v1 R.t)
end TP
namespace TP
open PySem PySem.Spec PyProof.Rows L2 HX HB HG HU HH HD HS HV HQ HK HN HJ TL
/-! ### the words of calcs and rows -/
def intS (i : Int) : Str := toString i
def cwD : PyData → List Str
  | .int i => [intS i]
  | .str z => [z]
  | .tuple [.str k, a, b] => ([("(" : Str), k] ++ cwD a ++ cwD b) ++ [(")" : Str)]
  | _ => []
/-- of signs that are signs -/
def okS (z : Str) : Bool := PyData.canLay0 (.str z)
def cOk : Nat → PyData → Bool
  | _, .int _ => true
  | _, .str z => okS z
  | n + 1, .tuple [.str k, a, b] => okS k && (cOk n a && cOk n b)
  | _, _ => false
def partW (f : List PyData → List Str) (k : Str) (d : PyData) : List Str := if k = "body" then ([("{" : Str)] ++ f (rowsD d)) ++ [("}" : Str)] else cwD d
def rowW (f : List PyData → List Str) : PyData → List Str
  | .tuple (.str z :: ds) => z :: (((kindsOf z).getD []).zip ds).flatMap fun q => partW f q.1 q.2
  | _ => []
def bwD : Nat → List PyData → List Str
  | 0, _ => []
  | n + 1, rows => rows.flatMap (rowW (bwD n))
structure RowT (P : List PyData → Prop) (r : PyData) (z : Str) (ks : List Str) (ds : List PyData) : Prop where
  row : r = .tuple (.str z :: ds)
  kinds : kindsOf z = some ks
  len : ks.length = ds.length
  bod : ∀ q ∈ ks.zip ds, q.1 = "body" → ∃ bs, q.2 = .tuple bs ∧ P bs
  leaf : ∀ q ∈ ks.zip ds, q.1 ≠ "body" → cOk 22 q.2 = true
def rowsOk : Nat → List PyData → Prop
  | 0, rows => rows = []
  | n + 1, rows => ∀ r ∈ rows, ∃ z ks ds, RowT (rowsOk n) r z ks ds
/-! ### how long the words are -/
def wl (zs : List Str) : Nat := (zs.map fun z => z.length + 1).sum
theorem wl_app (xs ys : List Str) : wl (xs ++ ys) = wl xs + wl ys := by unfold wl; rw [List.map_append, List.sum_append]
theorem wl_len : ∀ zs : List Str, zs.length ≤ wl zs
  | [] => Nat.le_refl _
  | z :: zs => by
    have := wl_len zs
    show zs.length + 1 ≤ (z.length + 1) + wl zs
    omega
theorem wl_cons (z : Str) (zs : List Str) : wl (z :: zs) = z.length + 1 + wl zs := rfl
theorem wl_nil : wl [] = 0 := rfl
theorem int_len {i : Int} (h : i.natAbs ≤ 10 ^ 13) : (intS i).length ≤ 15 := by
  have h1 : i.natAbs < 10 ^ 14 := Nat.lt_of_le_of_lt h (by decide)
  have := int_text_length_le10 (k := 14) (by decide) h1
  show (Str.ofString (toString i)).length ≤ 15
  rw [PySem.ofString_length]
  exact this
theorem int_small {i : Int} (h : i.natAbs ≤ 10 ^ 13) : i.natAbs.log2 < 1920 := by
  by_cases h0 : i.natAbs = 0
  · rw [h0]; decide
  · exact (Nat.log2_lt h0).mpr (Nat.lt_of_le_of_lt h (by decide +kernel))
theorem wt_small {i : Int} {m : Nat} (h : wtD (.int i) ≤ m) (hm : m < 10 ^ 9) : i.natAbs ≤ 10 ^ 13 := by
  by_cases h1 : i.natAbs ≤ 10 ^ 13
  · exact h1
  · have : wtD (.int i) = 10 ^ 9 := by show (if i.natAbs ≤ 10 ^ 13 then 20 else 10 ^ 9) = 10 ^ 9; rw [if_neg h1]
    omega
theorem wl_cw : ∀ (d : PyData), wtD d < 10 ^ 9 → wl (cwD d) ≤ wtD d
  | .int i, h => by
    have h1 := wt_small (Nat.le_refl _) h
    have h2 := int_len h1
    rw [wt_int h1]
    show (intS i).length + 1 + 0 ≤ 20
    omega
  | .str z, h => by
    show z.length + 1 + 0 ≤ z.length + 4
    omega
  | .tuple [.str k, a, b], h => by
    have e : wtD (.tuple [.str k, a, b]) = 4 + (k.length + 4 + (wtD a + (wtD b + 0))) := rfl
    rw [e] at h ⊢
    have h1 := wl_cw a (by omega)
    have h2 := wl_cw b (by omega)
    show wl (([("(" : Str), k] ++ cwD a ++ cwD b) ++ [(")" : Str)]) ≤ _
    rw [wl_app, wl_app, wl_app]
    have e1 : wl [("(" : Str), k] = 2 + (k.length + 1) := rfl
    have e2 : wl [(")" : Str)] = 2 := rfl
    omega
  | .none, _ => Nat.zero_le _
  | .bool _, _ => Nat.zero_le _
  | .list _, _ => Nat.zero_le _
  | .dict _, _ => Nat.zero_le _
  | .tuple [], _ => by simp only [cwD]; exact Nat.zero_le _
  | .tuple [_], _ => by simp only [cwD]; exact Nat.zero_le _
  | .tuple [_, _], _ => by simp only [cwD]; exact Nat.zero_le _
  | .tuple (_ :: _ :: _ :: _ :: _), _ => by simp only [cwD]; exact Nat.zero_le _
  | .tuple [.int _, _, _], _ => by simp only [cwD]; exact Nat.zero_le _
  | .tuple [.none, _, _], _ => by simp only [cwD]; exact Nat.zero_le _
  | .tuple [.bool _, _, _], _ => by simp only [cwD]; exact Nat.zero_le _
  | .tuple [.list _, _, _], _ => by simp only [cwD]; exact Nat.zero_le _
  | .tuple [.tuple _, _, _], _ => by simp only [cwD]; exact Nat.zero_le _
  | .tuple [.dict _, _, _], _ => by simp only [cwD]; exact Nat.zero_le _
end TP
namespace TP
open PySem PySem.Spec PyProof.Rows L2 HX HB HG HU HH HD HS HV HQ HK HN HJ TL
theorem sz6 {n : Nat} (h : n ≤ 4000000) : n < sizeLine := Nat.lt_of_le_of_lt h (by show 4000000 < 2 ^ 24; decide)
theorem six : (10 : Nat) ^ 6 = 1000000 := by decide
section
variable {P : Program} {w : World} {K : PySem.W.Frag} {mg : Str → Option Value} {base : Heap}
theorem catS {H : Hp} {Q : VK} {a b : Addr} {xs ys : List Str} (ha : H a = some (.lst (xs.map V.str))) (hb : H b = some (.lst (ys.map V.str))) (l : xs.length + ys.length ≤ 4000000) (q : ∀ p H', H p = none → Same H H' → H' p = some (.lst ((xs ++ ys).map V.str)) → Q (.ref p) H') : rCat (.ref a) (.ref b) H Q := by
  refine ⟨a, b, _, _, rfl, rfl, ha, hb, by rw [List.length_map, List.length_map]; exact Nat.le_of_lt (sz6 l), fun p np => ?_⟩
  have e : xs.map V.str ++ ys.map V.str = (xs ++ ys).map V.str := by rw [List.map_append]
  rw [e]
  exact q p _ np (same_upd np) upd_same
def spCw (K : PySem.W.Frag) (n : Nat) : Sp := fun vs H Q _ => ∃ (v : V) (d : PyData), vs = [v] ∧ Dp K H v d ∧ cOk n d = true ∧ wtD d ≤ 10 ^ 6 ∧ ∀ p H', H p = none → Same H H' → H' p = some (.lst ((cwD d).map V.str)) → Q (.ref p) H'
theorem cOk_inv {n : Nat} {d : PyData} (h : cOk n d = true) : (∃ i, d = .int i) ∨ (∃ z, d = .str z) ∨ ∃ m k a b, n = m + 1 ∧ d = .tuple [.str k, a, b] ∧ cOk m a = true ∧ cOk m b = true := by
  unfold cOk at h
  split at h
  · exact .inl ⟨_, rfl⟩
  · exact .inr (.inl ⟨_, rfl⟩)
  · simp only [Bool.and_eq_true] at h
    exact .inr (.inr ⟨_, _, _, _, rfl, rfl, h.2.1, h.2.2⟩)
  · cases h
theorem ok_cwords (T : Tp K w mg) : ∀ n, FnOk P w K mg base CX0 (n + 1 + 1) T.f_cwords T.fd_cwords ["calc"] (spCw K n) := rec_fn (c := 1) (sp := spCw K) fun n ih => by
  refine T.D_cwords.F.ok sc_cwords (fun vs H Q E h => ?_) (fun cdv A outer s H vs Q E hr h => ?_)
  · obtain ⟨v, d, rfl, _⟩ := h
    rfl
  · obtain ⟨v, d, rfl, hd, hc, hw, q⟩ := h
    have hu := hu_of hr
    have h9 : wtD d < 10 ^ 9 := Nat.lt_of_le_of_lt hw (by decide)
    refine ⟨_, (pss_cons (ps_if (pt_not (pt_val (pe_callB call_isi (by rfl) T.isinstance (by decide +kernel) (pa_cons (pv 0) (pa_cons (pe_bltn (v := .ty "tuple") (by rfl) T.tuple (by decide +kernel) rfl) pa_nil)))))
  (pss_one (ps_ret (pe_lst (pa_cons (pe_callTy HJ.call_strIS (by rfl) T.str (by decide +kernel) (pa_cons (pv 0) pa_nil)) pa_nil))))
  pss_nil)
  (pss_cons (ps_asg (pv 0) (pg_tup rfl (pgs_cons (pg_name (i := 1) sc_cwords.nd rfl (.inl rfl)) (pgs_cons (pg_name (i := 2) sc_cwords.nd rfl (.inl rfl)) (pgs_cons (pg_name (i := 3) sc_cwords.nd rfl (.inl rfl)) pgs_nil)))))
  (pss_one (ps_ret (pe_op op_cat (pe_op op_cat (pe_op op_cat (pe_lst (pa_cons pe_str (pa_cons (pv 1) pa_nil))) (pcall T.D_cwords ih (hr.mono (by omega)) (by rfl) (pa_cons (pv 2) pa_nil))) (pcall T.D_cwords ih (hr.mono (by omega)) (by rfl) (pa_cons (pv 3) pa_nil))) (pe_lst (pa_cons pe_str pa_nil))))))), ?_⟩
    obtain ⟨ty, kin⟩ := dp_ty hd
    refine ⟨_, rfl, _, _, _, _, _, rfl, .ty "tuple", ty, kit_dat (by decide) kin, _, rfl, ?_⟩
    rcases cOk_inv hc with ⟨i, rfl⟩ | ⟨z, rfl⟩ | ⟨m, k, a, b, rfl, rfl, ca, cb⟩
    · refine ite1 rfl ?_
      cases hd
      have hi := wt_small hw (by decide)
      refine ⟨_, rfl, .inl ⟨i, rfl, int_small hi, ?_⟩⟩
      refine ⟨by show 1 ≤ sizeLine; decide, fun p np => ?_⟩
      exact q p _ np (same_upd np) upd_same
    · refine ite1 rfl ?_
      cases hd
      refine ⟨_, rfl, .inr ⟨z, rfl, ?_⟩⟩
      refine ⟨by show 1 ≤ sizeLine; decide, fun p np => ?_⟩
      exact q p _ np (same_upd np) upd_same
    · refine ite0 rfl ?_
      obtain ⟨t, xs, rfl, hx, hall⟩ := dp_tup hd
      cases hall with
      | cons p1 hall =>
      cases hall with
      | cons p2 hall =>
      cases hall with
      | cons p3 hall =>
      cases hall
      cases p1
      rename_i v2 v3
      have e : wtD (.tuple [.str k, a, b]) = 4 + (k.length + 4 + (wtD a + (wtD b + 0))) := rfl
      rw [e, six] at hw
      have wa := wl_cw a (Nat.lt_of_le_of_lt (by omega : wtD a ≤ 1000000) (by decide))
      have wb := wl_cw b (Nat.lt_of_le_of_lt (by omega : wtD b ≤ 1000000) (by decide))
      have la := wl_len (cwD a)
      have lb := wl_len (cwD b)
      show tSeq _ _ _ _ H
      refine ⟨_, rfl, t, _, rfl, hx, rfl, _, _, rfl, _, _, rfl, _, _, rfl, rfl, nx_ ?_⟩
      show tRet _ _ [some (.ref t), some (.str k), some v2, some v3] H
      refine ⟨_, rfl, by show 2 ≤ sizeLine; decide, fun p1 n1 => ?_⟩
      have s1 := same_upd (o := .lst (([("(" : Str), k] : List Str).map V.str)) n1
      have h1 : (upd H p1 (.lst (([("(" : Str), k] : List Str).map V.str))) p1 = some (.lst (([("(" : Str), k] : List Str).map V.str)) := upd_same
      refine ⟨_, rfl, v2, a, rfl, s1.dp p2, ca, by rw [six]; omega, fun p2' H2 n2 s2 h2 => ?_⟩
      refine catS (s2 _ _ h1) h2 (by show 2 + _ ≤ 4000000; omega) fun p3' H3 n3 s3 h3 => ?_
      have s13 := (s1.trans s2).trans s3
      refine ⟨_, rfl, v3, b, rfl, s13.dp p3, cb, by rw [six]; omega, fun p4 H4 n4 s4 h4 => ?_⟩
      refine catS (s4 _ _ h3) h4 (by rw [List.length_append]; show 2 + _ + _ ≤ 4000000; omega) fun p5 H5 n5 s5 h5 => ?_
      refine ⟨by show 1 ≤ sizeLine; decide, fun p6 n6 => ?_⟩
      have s6 := same_upd (o := .lst (([(")" : Str)] : List Str).map V.str)) n6
      have h6 : (upd H5 p6 (.lst (([(")" : Str)] : List Str).map V.str))) p6 = some (.lst (([(")" : Str)] : List Str).map V.str)) := upd_same
      refine catS (s6 _ _ h5) h6 (by rw [List.length_append, List.length_append]; show 2 + _ + _ + 1 ≤ 4000000; omega) fun p7 H7 n7 s7 h7 => ?_
      have sA := (((s13.trans s4).trans s5).trans s6).trans s7
      exact q p7 H7 (((s13.trans s4).trans s5).trans s6 |>.free n7) sA h7
theorem ok_lcwords (T : Tp K w mg) : ∀ n, FnOk P w K mg base CX0 (n + 1 + 1) T.f_lcwords T.fd_lcwords ["_law_calc_here"] (spCw K n) := rec_fn (c := 1) (sp := spCw K) fun n ih => by
  refine T.D_lcwords.F.ok sc_lcwords (fun vs H Q E h => ?_) (fun cdv A outer s H vs Q E hr h => ?_)
  · obtain ⟨v, d, rfl, _⟩ := h
    rfl
  · obtain ⟨v, d, rfl, hd, hc, hw, q⟩ := h
    have hu := hu_of hr
    have h9 : wtD d < 10 ^ 9 := Nat.lt_of_le_of_lt hw (by decide)
    refine ⟨_, (pss_cons (ps_if (pt_not (pt_val (pe_callB call_isi (by rfl) T.isinstance (by decide +kernel) (pa_cons (pv 0) (pa_cons (pe_bltn (v := .ty "tuple") (by rfl) T.tuple (by decide +kernel) rfl) pa_nil)))))
  (pss_one (ps_ret (pe_lst (pa_cons (pe_callTy HJ.call_strIS (by rfl) T.str (by decide +kernel) (pa_cons (pv 0) pa_nil)) pa_nil))))
  pss_nil)
  (pss_one (ps_ret (pe_op op_cat (pe_op op_cat (pe_op op_cat (pe_lst (pa_cons pe_str (pa_cons (pe_ix ix_seq (pv 0) pe_int (fun _ _ => rfl)) pa_nil))) (pcall T.D_lcwords ih (hr.mono (by omega)) (by rfl) (pa_cons (pe_ix ix_seq (pv 0) pe_int (fun _ _ => rfl)) pa_nil))) (pcall T.D_lcwords ih (hr.mono (by omega)) (by rfl) (pa_cons (pe_ix ix_seq (pv 0) pe_int (fun _ _ => rfl)) pa_nil))) (pe_lst (pa_cons pe_str pa_nil)))))), ?_⟩
    obtain ⟨ty, kin⟩ := dp_ty hd
    refine ⟨_, rfl, _, _, _, _, _, rfl, .ty "tuple", ty, kit_dat (by decide) kin, _, rfl, ?_⟩
    rcases cOk_inv hc with ⟨i, rfl⟩ | ⟨z, rfl⟩ | ⟨m, k, a, b, rfl, rfl, ca, cb⟩
    · refine ite1 rfl ?_
      cases hd
      have hi := wt_small hw (by decide)
      refine ⟨_, rfl, .inl ⟨i, rfl, int_small hi, ?_⟩⟩
      refine ⟨by show 1 ≤ sizeLine; decide, fun p np => ?_⟩
      exact q p _ np (same_upd np) upd_same
    · refine ite1 rfl ?_
      cases hd
      refine ⟨_, rfl, .inr ⟨z, rfl, ?_⟩⟩
      refine ⟨by show 1 ≤ sizeLine; decide, fun p np => ?_⟩
      exact q p _ np (same_upd np) upd_same
    · refine ite0 rfl ?_
      obtain ⟨t, xs, rfl, hx, hall⟩ := dp_tup hd
      cases hall with
      | cons p1 hall =>
      cases hall with
      | cons p2 hall =>
      cases hall with
      | cons p3 hall =>
      cases hall
      cases p1
      rename_i v2 v3
      have e : wtD (.tuple [.str k, a, b]) = 4 + (k.length + 4 + (wtD a + (wtD b + 0))) := rfl
      rw [e, six] at hw
      have wa := wl_cw a (Nat.lt_of_le_of_lt (by omega : wtD a ≤ 1000000) (by decide))
      have wb := wl_cw b (Nat.lt_of_le_of_lt (by omega : wtD b ≤ 1000000) (by decide))
      have la := wl_len (cwD a)
      have lb := wl_len (cwD b)
      show Ends.nx _ _ H
      refine nx_ ?_
      refine ⟨_, rfl, .inr (.inl ⟨_, _, _, .str k, rfl, rfl, hx, atI_nat (j := 0) rfl, by show 2 ≤ sizeLine; decide, fun p1 n1 => ?_⟩)⟩
      have s1 := same_upd (o := .lst (([("(" : Str), k] : List Str).map V.str)) n1
      have h1 : (upd H p1 (.lst (([("(" : Str), k] : List Str).map V.str))) p1 = some (.lst (([("(" : Str), k] : List Str).map V.str)) := upd_same
      refine ⟨_, rfl, .inr (.inl ⟨_, _, _, v2, rfl, rfl, s1.sqt hx, atI_nat (j := 1) rfl, v2, a, rfl, s1.dp p2, ca, by rw [six]; omega, fun p2' H2 n2 s2 h2 => ?_⟩)⟩
      refine catS (s2 _ _ h1) h2 (by show 2 + _ ≤ 4000000; omega) fun p3' H3 n3 s3 h3 => ?_
      have s13 := (s1.trans s2).trans s3
      refine ⟨_, rfl, .inr (.inl ⟨_, _, _, v3, rfl, rfl, s13.sqt hx, atI_nat (j := 2) rfl, v3, b, rfl, s13.dp p3, cb, by rw [six]; omega, fun p4 H4 n4 s4 h4 => ?_⟩)⟩
      refine catS (s4 _ _ h3) h4 (by rw [List.length_append]; show 2 + _ + _ ≤ 4000000; omega) fun p5 H5 n5 s5 h5 => ?_
      refine ⟨by show 1 ≤ sizeLine; decide, fun p6 n6 => ?_⟩
      have s6 := same_upd (o := .lst (([(")" : Str)] : List Str).map V.str)) n6
      have h6 : (upd H5 p6 (.lst (([(")" : Str)] : List Str).map V.str))) p6 = some (.lst (([(")" : Str)] : List Str).map V.str)) := upd_same
      refine catS (s6 _ _ h5) h6 (by rw [List.length_append, List.length_append]; show 2 + _ + _ + 1 ≤ 4000000; omega) fun p7 H7 n7 s7 h7 => ?_
      have sA := (((s13.trans s4).trans s5).trans s6).trans s7
      exact q p7 H7 (((s13.trans s4).trans s5).trans s6 |>.free n7) sA h7
end
end TP
namespace TP
open PySem PySem.Spec PyProof.Rows L2 HX HB HG HU HH HD HS HV HQ HK HN HJ TL
/-! ### right rows have words -/
theorem cOk_of : ∀ (n : Nat) (d : PyData), isCalcD d = true → d.depth ≤ n → PyData.canLay0 d = true → cOk n d = true
  | n, .int _, _, _, _ => by cases n <;> rfl
  | n, .str _, _, _, hl => by cases n <;> exact hl
  | n, .tuple [k, a, b], h, hd, hl => by
    have h2 : (isKindD k && (isCalcD a && isCalcD b)) = true := h
    simp only [Bool.and_eq_true] at h2
    have hk : ∃ z, k = .str z := by
      cases k with
      | str z => exact ⟨z, rfl⟩
      | _ => exact absurd h2.1 (by simp [isKindD])
    obtain ⟨z, rfl⟩ := hk
    simp only [PyData.depth, PyData.depthAll] at hd
    obtain ⟨m, rfl⟩ : ∃ m, n = m + 1 := ⟨n - 1, by omega⟩
    have hl2 : (PyData.canLay0 (.str z) && (PyData.canLay0 a && (PyData.canLay0 b && true))) = true := hl
    simp only [Bool.and_eq_true] at hl2
    show (okS z && (cOk m a && cOk m b)) = true
    rw [cOk_of m a h2.2.1 (by omega) hl2.2.1, cOk_of m b h2.2.2 (by omega) hl2.2.2.1, show okS z = true from hl2.1]
    rfl
  | _, .none, h, _, _ => by simp [isCalcD] at h
  | _, .bool _, h, _, _ => by simp [isCalcD] at h
  | _, .list _, h, _, _ => by simp [isCalcD] at h
  | _, .dict _, h, _, _ => by simp [isCalcD] at h
  | _, .tuple [], h, _, _ => by simp [isCalcD] at h
  | _, .tuple [_], h, _, _ => by simp [isCalcD] at h
  | _, .tuple [_, _], h, _, _ => by simp [isCalcD] at h
  | _, .tuple (_ :: _ :: _ :: _ :: _), h, _, _ => by simp [isCalcD] at h
theorem part_cOk {cs ls hs : List Str} {ps : List (Str × Str)} {kind : Str} {d : PyData} {n : Nat} (h : isPartD cs ls hs ps kind d = true) (hb : kind ≠ "body") (hd : d.depth ≤ n) (hl : PyData.canLay0 d = true) : cOk n d = true := by
  unfold isPartD at h
  split at h
  · exact cOk_of n d h hd hl
  · split at h
    · cases d with
      | int i => cases n <;> rfl
      | _ => simp [inRange] at h
    · cases d with
      | str z => cases n <;> exact hl
      | _ => simp [strPart] at h
theorem part_bdy {cs ls hs : List Str} {ps : List (Str × Str)} {d : PyData} (h : isPartD cs ls hs ps "body" d = true) : ∃ bs, d = .tuple bs := by
  have h2 : decide (kindD d = "tuple") = true := h
  cases d with
  | tuple bs => exact ⟨bs, rfl⟩
  | _ => simp [kindD] at h2
theorem first_at {α β : Type} {f : Nat → α → Option β} : ∀ {xs : List α} {i : Nat}, firstSome f i xs = none → ∀ (k : Nat) (x : α), xs[k]? = some x → f (i + k) x = none
  | [], _, _, k, x, e => by simp at e
  | y :: ys, i, h, k, x, e => by
    simp only [firstSome] at h
    cases ey : f i y with
    | some b => rw [ey] at h; cases h
    | none =>
      rw [ey] at h
      cases k with
      | zero => cases e; exact ey
      | succ k =>
        have := first_at h k x e
        rw [show i + (k + 1) = i + 1 + k by omega]
        exact this
theorem body_mem : ∀ {ks : List Str} {ds : List PyData} {q : Str × PyData}, q ∈ ks.zip ds → q.1 = "body" → q.2 ∈ bodiesV ks ds
  | [], _, q, h, _ => by simp at h
  | _ :: _, [], q, h, _ => by simp at h
  | k :: ks, d :: ds, q, h, hb => by
    rw [List.zip_cons_cons] at h
    simp only [bodiesV]
    rcases List.mem_cons.mp h with rfl | h
    · rw [if_pos hb]; exact List.mem_cons_self ..
    · have := body_mem h hb
      split
      · exact List.mem_cons_of_mem _ this
      · exact this
theorem zip_mem2 {α β : Type} : ∀ {xs : List α} {ys : List β} {q : α × β}, q ∈ xs.zip ys → q.2 ∈ ys
  | [], _, q, h => by simp at h
  | _ :: _, [], q, h => by simp at h
  | x :: xs, y :: ys, q, h => by
    rw [List.zip_cons_cons] at h
    rcases List.mem_cons.mp h with rfl | h
    · exact List.mem_cons_self ..
    · exact List.mem_cons_of_mem _ (zip_mem2 h)
theorem rowsOk_of {cn ls hn : List Str} : ∀ (n : Nat) (rows : List PyData) (place : List Int) (ps : List (Str × Str)) (oft : Int), n ≤ 11 → wrongD cn ls hn (n + 1) rows place ps oft = none → Good (.tuple rows) (2 * n + 1) → rowsOk (n + 1) rows := by
  intro n
  induction n with
  | zero =>
    intro rows place ps oft hn hw hg r hr
    exfalso
    rw [wrong_succ] at hw
    obtain ⟨k, hk⟩ := List.getElem?_of_mem hr
    have h1 := first_at hw k r hk
    unfold rowF at h1
    split at h1
    · cases h1
    · rename_i h2
      simp only [not_or, Bool.not_eq_false] at h2
      obtain ⟨z, ks, ds, R⟩ := row_ok h2.2
      have h3 := (hg.item hr).dep
      rw [R.eq] at h3
      simp only [PyData.depth] at h3
      omega
  | succ n ih =>
    intro rows place ps oft hn hw hg r hr
    rw [wrong_succ] at hw
    obtain ⟨k, hk⟩ := List.getElem?_of_mem hr
    have h1 := first_at hw k r hk
    unfold rowF at h1
    split at h1
    · cases h1
    · rename_i h2
      simp only [not_or, Bool.not_eq_false] at h2
      obtain ⟨z, ks, ds, R⟩ := row_ok h2.2
      split at h1
      · cases h1
      · have hgr := hg.item hr
        have hgr2 := hgr
        rw [R.eq] at hgr2
        refine ⟨z, ks, ds, R.eq, R.ks_, R.len.symm, fun q hq hb => ?_, fun q hq hb => ?_⟩
        · have hp := R.parts q hq
          rw [hb] at hp
          obtain ⟨bs, ebs⟩ := part_bdy hp
          refine ⟨bs, ebs, ?_⟩
          have hm := body_mem hq hb
          have eb : bodiesD r = bodiesV ks ds := by rw [R.eq]; simp only [bodiesD, R.ks_]
          rw [← eb] at hm
          obtain ⟨j, hj⟩ := List.getElem?_of_mem hm
          have h3 := first_at h1 j _ hj
          rw [ebs] at h3
          refine ih bs _ _ _ (by omega) h3 ?_
          have hg2 : Good (.tuple (.str z :: ds)) (2 * n + 1 + 1) := hgr2.mono (by omega)
          have hi := hg2.item (d := q.2) (List.mem_cons_of_mem _ (zip_mem2 hq))
          rw [ebs] at hi
          exact hi
        · have hp := R.parts q hq
          have hg2 : Good (.tuple (.str z :: ds)) (2 * n + 1 + 1) := hgr2.mono (by omega)
          have hig := hg2.item (d := q.2) (List.mem_cons_of_mem _ (zip_mem2 hq))
          have hi := hig.dep
          exact part_cOk hp hb (by omega) hig.lay
theorem Rows.rowsOk {cn ls hn : List Str} {rows : List PyData} {k : Nat} (h : Rows cn ls hn [] 0 0 rows k) (hl : rows.length ≤ 10000) : rowsOk 12 rows :=
  rowsOk_of 11 rows [] [] 0 (Nat.le_refl _) (h.right 11 [] (by decide) rfl) ((h.good1 hl).mono (by decide))
/-! ### how long a text is -/
theorem wl_part {f : List PyData → List Str} {k : Str} {d : PyData} (hb : k = "body" → ∃ bs, d = .tuple bs ∧ wl (f bs) ≤ wtAll bs) (h9 : wtD d < 10 ^ 9) : wl (partW f k d) ≤ wtD d := by
  unfold partW
  split
  · rename_i h
    obtain ⟨bs, eb, this⟩ := hb h
    subst eb
    show wl (([("{" : Str)] ++ f bs) ++ [("}" : Str)]) ≤ 4 + wtAll bs
    rw [wl_app, wl_app]
    have e1 : wl [("{" : Str)] = 2 := rfl
    have e2 : wl [("}" : Str)] = 2 := rfl
    omega
  · exact wl_cw d h9
theorem wt_mem : ∀ {xs : List PyData} {x : PyData}, x ∈ xs → wtD x ≤ wtAll xs
  | y :: ys, x, h => by
    show wtD x ≤ wtD y + wtAll ys
    rcases List.mem_cons.mp h with rfl | h
    · omega
    · have := wt_mem h; omega
theorem wl_flat {α : Type} {g : α → List Str} {v : α → Nat} : ∀ {xs : List α}, (∀ x ∈ xs, wl (g x) ≤ v x) → wl (xs.flatMap g) ≤ (xs.map v).sum
  | [], _ => Nat.le_refl _
  | x :: xs, h => by
    rw [List.flatMap_cons, wl_app, List.map_cons, List.sum_cons]
    have h1 := h x (List.mem_cons_self ..)
    have h2 := wl_flat (xs := xs) fun y hy => h y (List.mem_cons_of_mem _ hy)
    omega
theorem zip_wt : ∀ {ks : List Str} {ds : List PyData}, ((ks.zip ds).map fun q => wtD q.2).sum ≤ wtAll ds
  | [], _ => by simp
  | _ :: _, [] => by simp
  | k :: ks, d :: ds => by
    rw [List.zip_cons_cons, List.map_cons, List.sum_cons]
    have := zip_wt (ks := ks) (ds := ds)
    show wtD d + _ ≤ wtD d + wtAll ds
    omega
theorem wt_sum : ∀ (rows : List PyData), (rows.map wtD).sum = wtAll rows
  | [] => rfl
  | r :: rows => by rw [List.map_cons, List.sum_cons, wt_sum rows]; rfl
theorem wl_row {f : List PyData → List Str} {P : List PyData → Prop} {r : PyData} {z : Str} {ks : List Str} {ds : List PyData} (R : RowT P r z ks ds) (hf : ∀ bs, P bs → wtAll bs < 10 ^ 9 → wl (f bs) ≤ wtAll bs) (h9 : wtD r < 10 ^ 9) : wl (rowW f r) ≤ wtD r := by
  obtain ⟨rfl, hk, hl, hb, hc⟩ := R
  have e : wtD (.tuple (.str z :: ds)) = 4 + (z.length + 4 + wtAll ds) := rfl
  rw [e] at h9 ⊢
  show wl (z :: (((kindsOf z).getD []).zip ds).flatMap fun q => partW f q.1 q.2) ≤ _
  rw [hk, Option.getD_some, wl_cons]
  have := wl_flat (g := fun q : Str × PyData => partW f q.1 q.2) (v := fun q => wtD q.2) (xs := ks.zip ds) fun q hq => by
    have hw : wtD q.2 < 10 ^ 9 := by have := wt_mem (zip_mem2 hq); omega
    by_cases h1 : q.1 = "body"
    · obtain ⟨bs, eb, hp⟩ := hb q hq h1
      refine wl_part (fun _ => ⟨bs, eb, hf bs hp ?_⟩) hw
      rw [eb] at hw
      have : wtD (.tuple bs) = 4 + wtAll bs := rfl
      omega
    · exact wl_part (fun h => absurd h h1) hw
  have h3 := zip_wt (ks := ks) (ds := ds)
  omega
theorem wl_bw : ∀ (n : Nat) (rows : List PyData), rowsOk n rows → wtAll rows < 10 ^ 9 → wl (bwD n rows) ≤ wtAll rows
  | 0, rows, h, _ => Nat.zero_le _
  | n + 1, rows, h, h9 => by
    have := wl_flat (g := rowW (bwD n)) (v := wtD) (xs := rows) fun r hr => by
      obtain ⟨z, ks, ds, R⟩ := h r hr
      exact wl_row R (fun bs hp h9 => wl_bw n bs hp h9) (by have := wt_mem hr; omega)
    rw [wt_sum] at this
    exact this
end TP
namespace TP
open PySem PySem.Spec PyProof.Rows L2 HX HB HG HU HH HD HS HV HQ HK HN HJ TL
theorem sum_take {α : Type} {v : α → Nat} : ∀ (xs : List α) (i : Nat), ((xs.take i).map v).sum ≤ (xs.map v).sum
  | [], i => by simp
  | x :: xs, 0 => by simp
  | x :: xs, i + 1 => by
    rw [List.take_succ_cons, List.map_cons, List.sum_cons, List.map_cons, List.sum_cons]
    have := sum_take (v := v) xs i
    omega
theorem row_part {n : Nat} {r : PyData} {z : Str} {ks : List Str} {ds : List PyData} (R : RowT (rowsOk n) r z ks ds) (h6 : wtD r ≤ 10 ^ 6) {q : Str × PyData} (hq : q ∈ ks.zip ds) : wl (partW (bwD n) q.1 q.2) ≤ wtD q.2 ∧ wtD q.2 ≤ 10 ^ 6 := by
  obtain ⟨rfl, hk, hl, hb, hc⟩ := R
  have e : wtD (.tuple (.str z :: ds)) = 4 + (z.length + 4 + wtAll ds) := rfl
  rw [e] at h6
  have h1 : wtD q.2 ≤ 10 ^ 6 := by have := wt_mem (zip_mem2 hq); omega
  have h9 : wtD q.2 < 10 ^ 9 := Nat.lt_of_le_of_lt h1 (by decide)
  refine ⟨wl_part (fun hbd => ?_) h9, h1⟩
  obtain ⟨bs, eb, hp⟩ := hb q hq hbd
  refine ⟨bs, eb, wl_bw n bs hp ?_⟩
  rw [eb] at h9
  have : wtD (.tuple bs) = 4 + wtAll bs := rfl
  omega
theorem walk2 {J : It} {n : Nat} {G : Hp → Prop} {Y : Nat → Hp → V → Hp → Prop} (w : Walk J n G Y) {B : (Hp → Prop) → V → Hp → Prop} {H1 : Hp} {Qd : Hp → Prop} (Pv : Nat → Hp → Prop) (h0 : Pv 0 H1) (hG : ∀ i H, i ≤ n → Pv i H → G H) (hs : ∀ i x H H', i < n → Pv i H → Y i H x H' → B (Pv (i + 1)) x H') (hd : ∀ H, Pv n H → Qd H) :
    ∃ W : Nat → Nat → Hp → Prop, (∃ m, W 0 m H1) ∧ ∀ i m H, W i m H → (J.stop i H ∧ Qd H) ∨ (J.go i H ∧ ∃ Nx : Hp → Prop, (∀ H', Nx H' → ∃ m', m' < m ∧ W (i + 1) m' H') ∧ ∀ x H', J.yld i H x H' → B Nx x H') := by
  refine ⟨fun i m H => m = n - i ∧ i ≤ n ∧ Pv i H, ⟨n, by simp, Nat.zero_le _, h0⟩, ?_⟩
  rintro i m H ⟨rfl, hi, p⟩
  have q := hG i H hi p
  by_cases hlt : i < n
  · exact .inr ⟨w.goes i H hlt q, Pv (i + 1), fun H' p' => ⟨n - (i + 1), by omega, rfl, hlt, p'⟩, fun x H' y => hs i x H H' hlt p (w.yields i H x H' hlt q y)⟩
  · have e : i = n := by omega
    subst e
    exact .inl ⟨w.stops H q, hd H p⟩
section
variable {P : Program} {w : World} {K : PySem.W.Frag} {mg : Str → Option Value} {base : Heap}
def spBw (K : PySem.W.Frag) (n : Nat) : Sp := fun vs H Q _ => ∃ (v : V) (rows : List PyData), vs = [v] ∧ Dp K H v (.tuple rows) ∧ rowsOk n rows ∧ wtAll rows ≤ 10 ^ 6 ∧ ∀ p H', H p = none → Same H H' → H' p = some (.lst ((bwD n rows).map V.str)) → Q (.ref p) H'
def spRw (K : PySem.W.Frag) (n : Nat) : Sp := fun vs H Q _ => ∃ (v : V) (r : PyData) (z : Str) (ks : List Str) (ds : List PyData), vs = [v] ∧ Dp K H v r ∧ RowT (rowsOk n) r z ks ds ∧ wtD r ≤ 10 ^ 6 ∧ ∀ p H', H p = none → Same H H' → H' p = some (.lst ((rowW (bwD n) r).map V.str)) → Q (.ref p) H'
theorem ok_rwords (T : Tp K w mg) {n L : Nat} (hL : 24 ≤ L) (hb : FnOk P w K mg base CX0 L T.f_bwords T.fd_bwords ["body"] (spBw K n)) : FnOk P w K mg base CX0 (L + 1) T.f_rwords T.fd_rwords ["row"] (spRw K n) := by
  refine T.D_rwords.F.ok sc_rwords (fun vs H Q E h => ?_) (fun cdv A outer s H vs Q E hr h => ?_)
  · obtain ⟨v, r, z, ks, ds, rfl, _⟩ := h
    rfl
  · obtain ⟨v, r, z, ks, ds, rfl, hd, R, h6, q⟩ := h
    have hu := hu_of hr
    have hpart := @row_part n r z ks ds R h6
    obtain ⟨er, hk, hkl, hbd, hcd⟩ := R
    subst er
    refine ⟨_, (pss_cons (ps_asg (pv 0) (pg_star (n := 2) (i := 1) rfl (pgs_cons (pg_name (i := 1) sc_rwords.nd rfl (.inl rfl)) (pgs_star (pg_name (i := 2) sc_rwords.nd rfl (.inl rfl)) pgs_nil))))
  (pss_cons (ps_set (i := 3) sc_rwords.nd rfl (.inl rfl) (pe_lst (pa_cons (pv 1) pa_nil)))
  (pss_cons (ps_for PassesOwn.never rfl (HE.pi_zipTL (by rfl) T.zip (pa_cons (pe_ix (HD.ix_dt T.d_PARTS) (pe_gr (by rfl) T.c_PARTS) (pv 1) (fun _ _ => rfl)) (pa_cons (pv 2) pa_nil))) (pg_tup rfl (pgs_cons (pg_name (i := 4) sc_rwords.nd rfl (.inl rfl)) (pgs_cons (pg_name (i := 5) sc_rwords.nd rfl (.inl rfl)) pgs_nil)))
  (pss_one (ps_expr (pe_bm PySem.F.plainAttrs_list PySem.F.slot_list_extend PySem.F.type_list_extend mt_extend (pv 3) (pa_cons (pe_ifExp (pt_cmpR op_eq (pv 4) pe_str (nomark _)) (pe_op op_cat (pe_op op_cat (pe_lst (pa_cons pe_str pa_nil)) (pcall T.D_bwords hb (hr.mono (by omega)) (by rfl) (pa_cons (pv 5) pa_nil))) (pe_lst (pa_cons pe_str pa_nil))) (pcall T.D_cwords (ok_cwords T 22) (hr.mono (by omega)) (by rfl) (pa_cons (pv 5) pa_nil))) pa_nil)))))
  (pss_one (ps_ret (pv 3)))))), ?_⟩
    obtain ⟨a, xs, rfl, hx, hall⟩ := dp_tup hd
    cases hall with
    | cons p0 hall =>
    cases p0
    rename_i xs
    have l1 : xs.length = ds.length := dpAll_len hall
    have l3 := kinds_len hk
    have e : wtD (.tuple (.str z :: ds)) = 4 + (z.length + 4 + wtAll ds) := rfl
    rw [e, six] at h6
    refine ⟨_, rfl, a, _, rfl, hx, by rw [List.length_cons]; omega, by rw [List.length_cons]; omega, fun sp nsp => ?_⟩
    have e1 : List.take ((V.str z :: xs).length + 1 - 2) (List.drop 1 (V.str z :: xs)) = xs := by
      rw [List.length_cons, List.drop_succ_cons, List.drop_zero, show xs.length + 1 + 1 - 2 = xs.length by omega, List.take_length]
    have e2 : List.drop ((V.str z :: xs).length + 1 - 2) (List.drop 1 (V.str z :: xs)) = [] := by
      rw [List.length_cons, List.drop_succ_cons, List.drop_zero, show xs.length + 1 + 1 - 2 = xs.length by omega, List.drop_length]
    rw [e1, e2]
    refine ⟨_, _, rfl, _, _, rfl, rfl, ?_⟩
    have s2 := same_upd (o := .lst xs) nsp
    have hsp : (upd H sp (.lst xs)) sp = some (.lst xs) := upd_same
    have hall2 := s2.dpAll hall
    show tSeq _ _ _ _ (upd H sp (.lst xs))
    generalize upd H sp (.lst xs) = H2 at s2 hsp hall2 ⊢
    have mV := partsV_mem hk
    refine ⟨_, rfl, by show 1 ≤ sizeLine; decide, fun fp nfp => ?_⟩
    have s3 := same_upd (o := .lst [V.str z]) nfp
    have hfp : (upd H2 fp (.lst [V.str z])) fp = some (.lst [V.str z]) := upd_same
    have nfp' : H2 fp = none := nfp
    show tSeq _ _ _ _ (upd H2 fp (.lst [V.str z]))
    generalize upd H2 fp (.lst [V.str z]) = H3 at s3 hfp ⊢
    refine ⟨_, rfl, _, mV, rfl, rfl, fun t ht => ⟨_, rfl, t, sp, _, _, rfl, ht H3, sl (s3 _ _ hsp), ?_⟩⟩
    refine for_it (HE.walk_zipTL (xs := ks.map V.str) (ys := xs) (n := ks.length) (by rw [List.length_map]; omega)) (fun i σ H4 => ∃ (y4 y5 : Option V), σ = [some (.ref a), some (.str z), some (.ref sp), some (.ref fp), y4, y5] ∧ Same H2 H4 ∧ H4 fp = some (.lst ((z :: ((ks.zip ds).take i).flatMap fun q => partW (bwD n) q.1 q.2).map V.str))) ?_ (fun i σ H4 _ g => ?_) ?_ ?_
    · exact ⟨none, none, rfl, s3, hfp⟩
    · obtain ⟨y4, y5, rfl, sm, _⟩ := g
      exact ⟨ht H4, sl (sm _ _ hsp)⟩
    · rintro i σ x H4 H5 hi ⟨y4, y5, rfl, sm, hL⟩ ⟨Tt, x1, x2, rfl, nT, rfl, g1, g2⟩
      have hid : i < ds.length := by omega
      dsimp only at g1 g2
      rw [List.getElem?_map, List.getElem?_eq_getElem hi] at g1
      cases g1
      obtain ⟨v2, ev, hv⟩ := dp_at hall2 (i := i) (d := ds[i]) (List.getElem?_eq_getElem hid)
      rw [ev] at g2
      cases g2
      have s5 := same_upd (o := .tup [V.str ks[i], x2]) nT
      have hL5 := s5 _ _ hL
      have hv5 := (sm.trans s5).dp hv
      have s25 := sm.trans s5
      refine ⟨Tt, _, rfl, stt upd_same, rfl, _, _, rfl, _, _, rfl, rfl, ?_⟩
      show tDrop _ _ _ (upd H4 Tt (.tup [V.str ks[i], x2]))
      generalize upd H4 Tt (.tup [V.str ks[i], x2]) = H5 at s5 hL5 hv5 s25 ⊢
      have hz : i < (ks.zip ds).length := by rw [List.length_zip]; omega
      have ez : (ks.zip ds)[i] = (ks[i], ds[i]) := List.getElem_zip
      have hq : (ks[i], ds[i]) ∈ ks.zip ds := by rw [← ez]; exact List.getElem_mem hz
      obtain ⟨w1, w2⟩ := hpart hq
      dsimp only at w1 w2
      rw [six] at w2
      have tk : ((ks.zip ds).take (i + 1)).flatMap (fun q => partW (bwD n) q.1 q.2) = ((ks.zip ds).take i).flatMap (fun q => partW (bwD n) q.1 q.2) ++ partW (bwD n) ks[i] ds[i] := by
        rw [List.take_add_one, List.getElem?_eq_getElem hz, List.flatMap_append, ez]
        show _ ++ (partW (bwD n) ks[i] ds[i] ++ []) = _
        rw [List.append_nil]
      have lpre : (((ks.zip ds).take i).flatMap fun q => partW (bwD n) q.1 q.2).length ≤ wtAll ds := by
        have h1 := wl_flat (g := fun q : Str × PyData => partW (bwD n) q.1 q.2) (v := fun q => wtD q.2) (xs := (ks.zip ds).take i) fun q hq => (hpart (List.mem_of_mem_take hq)).1
        have h2 := sum_take (v := fun q : Str × PyData => wtD q.2) (ks.zip ds) i
        have h3 := zip_wt (ks := ks) (ds := ds)
        have h4 := wl_len (((ks.zip ds).take i).flatMap fun q => partW (bwD n) q.1 q.2)
        omega
      have lpart := wl_len (partW (bwD n) ks[i] ds[i])
      have fin : ∀ (p6 : Addr) (H6 : Hp), Same H5 H6 → H6 p6 = some (.lst ((partW (bwD n) ks[i] ds[i]).map V.str)) → rExtend (.ref fp) [.ref p6] H6 (fun _ H7 => ∃ (y4 y5 : Option V), [some (.ref a), some (.str z), some (.ref sp), some (.ref fp), some (.str ks[i]), some x2] = [some (.ref a), some (.str z), some (.ref sp), some (.ref fp), y4, y5] ∧ Same H2 H7 ∧ H7 fp = some (.lst ((z :: ((ks.zip ds).take (i + 1)).flatMap fun q => partW (bwD n) q.1 q.2).map V.str))) := fun p6 H6 s6 h6 => by
        refine ⟨fp, p6, _, _, rfl, rfl, s6 _ _ hL5, h6, ?_, _, _, rfl, (s25.trans s6).own nfp', ?_⟩
        · rw [List.length_map, List.length_map, List.length_cons]
          exact Nat.le_of_lt (sz6 (by omega))
        · rw [upd_same, tk, ← List.cons_append, List.map_append]
      refine ⟨_, rfl, .inl ⟨rfl, _, sl hL5⟩, _, rfl, rfl, _, rfl, ?_⟩
      rw [es_str]
      refine ite2 (fun hb2 => ?_) (fun hb2 => ?_)
      · have hb2 := of_decide_eq_true hb2
        obtain ⟨bs, eb, hp⟩ := hbd _ hq hb2
        dsimp only at eb
        have ep : partW (bwD n) ks[i] ds[i] = ([("{" : Str)] ++ bwD n bs) ++ [("}" : Str)] := by
          unfold partW
          rw [if_pos hb2, eb]
          rfl
        rw [ep] at fin w1
        rw [eb] at w1 w2 hv5
        have wb : wtD (.tuple bs) = 4 + wtAll bs := rfl
        have lw := wl_len (([("{" : Str)] ++ bwD n bs) ++ [("}" : Str)])
        simp only [List.length_append, List.length_cons, List.length_nil] at lw
        refine ⟨by show 1 ≤ sizeLine; decide, fun p1 n1 => ?_⟩
        have t1 := same_upd (o := .lst (([("{" : Str)] : List Str).map V.str)) n1
        have h1 : (upd H5 p1 (.lst (([("{" : Str)] : List Str).map V.str))) p1 = some (.lst (([("{" : Str)] : List Str).map V.str)) := upd_same
        refine ⟨_, rfl, x2, bs, rfl, t1.dp hv5, hp, by rw [six]; omega, fun p2 H7 n2 t2 h2 => ?_⟩
        refine catS (t2 _ _ h1) h2 (by show 1 + _ ≤ 4000000; omega) fun p3 H8 n3 t3 h3 => ?_
        refine ⟨by show 1 ≤ sizeLine; decide, fun p4 n4 => ?_⟩
        have t4 := same_upd (o := .lst (([("}" : Str)] : List Str).map V.str)) n4
        have h4 : (upd H8 p4 (.lst (([("}" : Str)] : List Str).map V.str))) p4 = some (.lst (([("}" : Str)] : List Str).map V.str)) := upd_same
        refine catS (t4 _ _ h3) h4 (by rw [List.length_append]; show 1 + _ + 1 ≤ 4000000; omega) fun p5 H9 n5 t5 h5 => ?_
        exact fin p5 H9 ((((t1.trans t2).trans t3).trans t4).trans t5) h5
      · have hb2 : ks[i] ≠ "body" := fun e => hb2 (decide_eq_true e)
        have ep : partW (bwD n) ks[i] ds[i] = cwD ds[i] := by
          unfold partW
          rw [if_neg hb2]
        rw [ep] at fin
        exact ⟨_, rfl, x2, ds[i], rfl, hv5, hcd _ hq hb2, by rw [six]; omega, fun p6 H6 _ s6 h6 => fin p6 H6 s6 h6⟩
    · rintro σ H4 ⟨y4, y5, rfl, sm, hL⟩
      refine ⟨_, rfl, ?_⟩
      rw [show ks.length = (ks.zip ds).length by rw [List.length_zip]; omega, List.take_length] at hL
      refine q fp H4 (s2.free nfp') (s2.trans sm) ?_
      show H4 fp = some (.lst ((z :: (((kindsOf z).getD []).zip ds).flatMap fun q => partW (bwD n) q.1 q.2).map V.str))
      rw [hk, Option.getD_some]
      exact hL
theorem ok_bwords1 (T : Tp K w mg) (n : Nat) (ih : FnOk P w K mg base CX0 (2 * n + 24) T.f_rwords T.fd_rwords ["row"] (spR (spRw K) n)) : FnOk P w K mg base CX0 (2 * n + 25) T.f_bwords T.fd_bwords ["body"] (spBw K n) := by
  refine T.D_bwords.F.ok sc_bwords (fun vs H Q E h => ?_) (fun cdv A outer s H vs Q E hr h => ?_)
  · obtain ⟨v, rows, rfl, _⟩ := h
    rfl
  · obtain ⟨v, rows, rfl, hd, hok, h6, q⟩ := h
    have hu := hu_of hr
    refine ⟨_, (pss_one (ps_ret (pe_lc2 (own := [("row", 1), ("word", 2)]) (vs1 := [2]) (g := gName 1) (g1 := gName 2) (by rfl) sc_bwords.nd (pi_tup (pv 0)) (blkOk_by (own := [("row", 1), ("word", 2)]) (N := ["body", "row", "word"]) (sc := defScope s_bwords) (by decide +kernel)) (by decide) (fun _ _ _ _ _ => (pg_name (i := 1) sc_bwords.nd rfl (.inl rfl))) (fun _ _ _ _ _ => pts_nil) (fun _ _ _ _ _ => (show PI _ _ _ (iList K _) from (pi_list (pcall T.D_rwords ih (hr.mono (by omega)) (by rfl) (pa_cons (pv 1) pa_nil))))) (fun _ _ _ _ _ => (pg_name (i := 2) sc_bwords.nd rfl (.inl rfl))) (fun _ _ _ _ _ => pts_nil) (fun _ _ _ _ _ => (pv 2))))), ?_⟩
    obtain ⟨a, xs, rfl, hx, hall⟩ := dp_tup hd
    have hl := dpAll_len hall
    refine ⟨_, rfl, a, rfl, ⟨_, hx⟩, fun L nL => ?_⟩
    have tk : ∀ i (hi : i < rows.length), ((rows.take (i + 1)).flatMap (rowW (bwD (n - 1)))) = (rows.take i).flatMap (rowW (bwD (n - 1))) ++ rowW (bwD (n - 1)) rows[i] := fun i hi => by
      rw [List.take_add_one, List.getElem?_eq_getElem hi, List.flatMap_append]
      show _ ++ (rowW (bwD (n - 1)) rows[i] ++ []) = _
      rw [List.append_nil]
    refine walk2 (walk_tup (xs := xs)) (fun i H2 => Same H H2 ∧ H2 L = some (.lst (((rows.take i).flatMap (rowW (bwD (n - 1)))).map V.str))) ⟨same_upd nL, upd_same⟩ (fun i H2 _ g => g.1.sqt hx) ?_ ?_
    · rintro i x H2 H3 hi ⟨sm, hL⟩ ⟨rfl, g1⟩
      have hir : i < rows.length := by omega
      obtain ⟨m, rfl⟩ : ∃ m, n = m + 1 := by
        cases n with
        | zero => rw [show rows = [] from hok] at hir; exact absurd hir (by simp)
        | succ m => exact ⟨m, rfl⟩
      obtain ⟨v, ev, hv⟩ := dp_at hall (i := i) (d := rows[i]) (List.getElem?_eq_getElem hir)
      rw [ev] at g1
      cases g1
      obtain ⟨z, ks, ds, R⟩ := hok _ (List.getElem_mem hir)
      have hwr := wt_mem (List.getElem_mem hir)
      have lrow : (rowW (bwD m) rows[i]).length ≤ wtD rows[i] := by
        have h9 : wtD rows[i] < 10 ^ 9 := Nat.lt_of_le_of_lt (Nat.le_trans hwr h6) (by decide)
        have := wl_row R (fun bs hp h9 => wl_bw m bs hp h9) h9
        have := wl_len (rowW (bwD m) rows[i])
        omega
      have lpre : ((rows.take i).flatMap (rowW (bwD m))).length ≤ wtAll rows := by
        have h1 := wl_flat (g := rowW (bwD m)) (v := wtD) (xs := rows.take i) fun r hr => by
          obtain ⟨z, ks, ds, R⟩ := hok r (List.mem_of_mem_take hr)
          have := wt_mem (List.mem_of_mem_take hr)
          exact wl_row R (fun bs hp h9 => wl_bw m bs hp h9) (Nat.lt_of_le_of_lt (Nat.le_trans this h6) (by decide))
        have h2 := sum_take (v := wtD) rows i
        rw [wt_sum rows] at h2
        have h4 := wl_len ((rows.take i).flatMap (rowW (bwD m)))
        omega
      rw [six] at h6
      refine ⟨rfl, _, rfl, x, rows[i], z, ks, ds, rfl, sm.dp hv, R, by rw [six]; omega, fun rp H4 nrp s4 hrp => ⟨rp, rfl, ⟨_, sl hrp⟩, ?_⟩⟩
      have hL4 := s4 _ _ hL
      have nRL : L ≠ rp := fun e => by rw [e, nrp] at hL; cases hL
      refine walk2 (walk_list (xs := (rowW (bwD m) rows[i]).map V.str)) (fun j H5 => Same H H5 ∧ H5 rp = some (.lst ((rowW (bwD m) rows[i]).map V.str)) ∧ H5 L = some (.lst (((rows.take i).flatMap (rowW (bwD m)) ++ (rowW (bwD m) rows[i]).take j).map V.str))) ⟨sm.trans s4, hrp, ?_⟩ (fun j H5 _ g => sl g.2.1) ?_ ?_
      · rw [List.take_zero, List.append_nil]; exact hL4
      · rintro j y H5 H6 hj ⟨sm5, hrp5, hL5⟩ ⟨rfl, g2⟩
        rw [List.length_map] at hj
        rw [List.getElem?_map, List.getElem?_eq_getElem hj] at g2
        cases g2
        refine ⟨rfl, _, rfl, _, hL5, ?_, sm5.own nL, ?_, ?_⟩
        · rw [List.length_map, List.length_append, List.length_take]
          exact sz6 (by omega)
        · rw [upd_ne nRL.symm]; exact hrp5
        · rw [upd_same, List.take_add_one, List.getElem?_eq_getElem hj, ← List.append_assoc, List.map_append (l₁ := (rows.take i).flatMap (rowW (bwD m)) ++ (rowW (bwD m) rows[i]).take j)]
          rfl
      · rintro H5 ⟨sm5, hrp5, hL5⟩
        rw [List.length_map, List.take_length] at hL5
        refine ⟨sm5, ?_⟩
        rw [tk i hir]
        exact hL5
    · rintro H2 ⟨sm, hL⟩
      rw [hl, List.take_length] at hL
      refine q L H2 nL sm ?_
      cases n with
      | zero =>
        rw [show rows = [] from hok] at hL
        exact hL
      | succ m => exact hL
theorem ok_bwords (T : Tp K w mg) : ∀ n, FnOk P w K mg base CX0 (2 * n + 25) T.f_bwords T.fd_bwords ["body"] (spBw K n)
  | 0 => ok_bwords1 T 0 ⟨fun _ _ _ _ h => h.elim, fun _ _ _ _ _ _ _ _ _ _ _ _ _ h => h.elim⟩
  | n + 1 => by
    have h := ok_rwords (L := 2 * n + 25) T (by omega) (ok_bwords T n)
    exact ok_bwords1 T (n + 1) (by
      have e : 2 * (n + 1) + 24 = 2 * n + 25 + 1 := by omega
      rw [e]
      exact h)
end
end TP
namespace TP
open PySem PySem.Spec PyProof.Rows L2 HX HB HG HU HH HD HS HV HQ HK HN HJ TL
theorem kindL_body {z : Str} {c : Nat} (h : c ∈ [110, 99, 120, 108, 118, 98, 115, 116]) : (kindL z c = "body") ↔ c = 98 := by
  simp only [List.mem_cons, List.not_mem_nil, or_false] at h
  rcases h with rfl | rfl | rfl | rfl | rfl | rfl | rfl | rfl
  · exact ⟨fun h => absurd h (by show ("name" : Str) ≠ "body"; decide), fun h => absurd h (by decide)⟩
  · exact ⟨fun h => absurd h (by show ("calc" : Str) ≠ "body"; decide), fun h => absurd h (by decide)⟩
  · exact ⟨fun h => absurd h (by show ("cell" : Str) ≠ "body"; decide), fun h => absurd h (by decide)⟩
  · exact ⟨fun h => absurd h (by show ("lock" : Str) ≠ "body"; decide), fun h => absurd h (by decide)⟩
  · exact ⟨fun h => absurd h (by show ("channel" : Str) ≠ "body"; decide), fun h => absurd h (by decide)⟩
  · exact ⟨fun _ => rfl, fun _ => rfl⟩
  · refine ⟨fun h => absurd h ?_, fun h => absurd h (by decide)⟩
    show (if z = "start" then ("home" : Str) else if z = "off" then "entered" else "scope") ≠ "body"
    split
    · decide
    · split <;> decide
  · refine ⟨fun h => absurd h ?_, fun h => absurd h (by decide)⟩
    show (if z = "rest" then ("rest" : Str) else if z = "within" then "span" else "times") ≠ "body"
    split
    · decide
    · split <;> decide
theorem rowW_eq {f : List PyData → List Str} {z : Str} {ks : List Str} {ds : List PyData} (h : kindsOf z = some ks) : rowW f (.tuple (.str z :: ds)) = z :: (ks.zip ds).flatMap fun q => partW f q.1 q.2 := by
  show z :: (((kindsOf z).getD []).zip ds).flatMap (fun q => partW f q.1 q.2) = _
  rw [h, Option.getD_some]
theorem cut_tail (x : V) (xs : List V) : cutV (x :: xs) (some 1) none = xs := by
  unfold cutV
  rw [HT.sIx_none, show (1 : Int) = ((1 : Nat) : Int) from rfl, HT.sIx_nat, List.length_cons, Nat.min_eq_left (by omega), List.drop_succ_cons, List.drop_zero, Nat.add_sub_cancel, List.take_length]
section
variable {P : Program} {w : World} {K : PySem.W.Frag} {mg : Str → Option Value} {base : Heap}
theorem ok_lwords (T : Tp K w mg) : ∀ n, FnOk P w K mg base CX0 (n + 24 + 1) T.f_lwords T.fd_lwords ["_law_rows"] (spBw K n) := rec_fn (c := 24) (sp := spBw K) fun n ih => by
  refine T.D_lwords.F.ok sc_lwords (fun vs H Q E h => ?_) (fun cdv A outer s H vs Q E hr h => ?_)
  · obtain ⟨v, rows, rfl, _⟩ := h
    rfl
  · obtain ⟨v, rows, rfl, hd, hok, h6, q⟩ := h
    have hu := hu_of hr
    refine ⟨_, (pss_cons (ps_set (i := 1) sc_lwords.nd rfl (.inl rfl) (pe_lst pa_nil))
  (pss_cons (ps_for PassesOwn.never rfl (pi_tup (pv 0)) (pg_name (i := 2) sc_lwords.nd rfl (.inl rfl))
  (pss_cons (ps_expr (pe_bm PySem.F.plainAttrs_list PySem.F.slot_list_append PySem.F.type_list_append mt_append (pv 1) (pa_cons (pe_ix ix_tup (pv 2) pe_int (fun _ _ => rfl)) pa_nil)))
  (pss_one (ps_for PassesOwn.never rfl (HE.pi_zipST (by rfl) T.zip (pa_cons (pcall T.D_shape (ok_shape T) (hr.mono (by omega)) (by rfl) (pa_cons (pe_ix ix_tup (pv 2) pe_int (fun _ _ => rfl)) pa_nil)) (pa_cons (pe_slice sl_tup (pv 2) (po_some pe_int) po_none) pa_nil))) (pg_tup rfl (pgs_cons (pg_name (i := 3) sc_lwords.nd rfl (.inl rfl)) (pgs_cons (pg_name (i := 4) sc_lwords.nd rfl (.inl rfl)) pgs_nil)))
  (pss_one (ps_if (pt_cmpR op_eq (pv 3) pe_str (nomark _))
  (pss_one (ps_set (i := 1) sc_lwords.nd rfl (.inl rfl) (pe_op op_cat (pe_op op_cat (pe_op op_cat (pv 1) (pe_lst (pa_cons pe_str pa_nil))) (pcall T.D_lwords ih (hr.mono (by omega)) (by rfl) (pa_cons (pv 4) pa_nil))) (pe_lst (pa_cons pe_str pa_nil)))))
  (pss_one (ps_set (i := 1) sc_lwords.nd rfl (.inl rfl) (pe_op op_cat (pv 1) (pcall T.D_lcwords (ok_lcwords T 22) (hr.mono (by omega)) (by rfl) (pa_cons (pv 4) pa_nil)))))))))))
  (pss_one (ps_ret (pv 1))))), ?_⟩
    obtain ⟨a, xs, rfl, hx, hall⟩ := dp_tup hd
    have hl := dpAll_len hall
    refine ⟨Nat.zero_le _, fun f0 nf0 => ?_⟩
    have s0 := same_upd (o := .lst []) nf0
    have hf0 : (upd H f0 (.lst [])) f0 = some (.lst []) := upd_same
    show tSeq _ _ _ _ (upd H f0 (.lst []))
    generalize upd H f0 (.lst []) = H0 at s0 hf0 ⊢
    refine ⟨_, rfl, a, rfl, ⟨_, s0.sqt hx⟩, for_it (walk_tup (xs := xs)) (fun i σ H2 => ∃ (fp : Addr) (y2 y3 y4 : Option V), σ = [some (.ref a), some (.ref fp), y2, y3, y4] ∧ Same H H2 ∧ H fp = none ∧ H2 fp = some (.lst (((rows.take i).flatMap (rowW (bwD (n - 1)))).map V.str))) ?_ (fun i σ H2 _ g => by obtain ⟨_, _, _, _, _, sm, _⟩ := g; exact sm.sqt hx) ?_ ?_⟩
    · exact ⟨f0, none, none, none, rfl, s0, nf0, hf0⟩
    · rintro i x σ H2 H3 hi ⟨fp, y2, y3, y4, rfl, sm, nfp, hfp⟩ ⟨rfl, g1⟩
      have hir : i < rows.length := by omega
      obtain ⟨m, rfl⟩ : ∃ m, n = m + 1 := by
        cases n with
        | zero => rw [show rows = [] from hok] at hir; exact absurd hir (by simp)
        | succ m => exact ⟨m, rfl⟩
      obtain ⟨v, ev, hv⟩ := dp_at hall (i := i) (d := rows[i]) (List.getElem?_eq_getElem hir)
      rw [ev] at g1
      cases g1
      obtain ⟨z, ks, ds, R⟩ := hok _ (List.getElem_mem hir)
      have hwr := wt_mem (List.getElem_mem hir)
      have hpart := @row_part m _ z ks ds R (Nat.le_trans hwr h6)
      have lpre : ((rows.take i).flatMap (rowW (bwD m))).length ≤ wtAll rows := by
        have h1 := wl_flat (g := rowW (bwD m)) (v := wtD) (xs := rows.take i) fun r hr => by
          obtain ⟨z, ks, ds, R⟩ := hok r (List.mem_of_mem_take hr)
          have := wt_mem (List.mem_of_mem_take hr)
          exact wl_row R (fun bs hp h9 => wl_bw m bs hp h9) (Nat.lt_of_le_of_lt (Nat.le_trans this h6) (by decide))
        have h2 := sum_take (v := wtD) rows i
        rw [wt_sum rows] at h2
        have h4 := wl_len ((rows.take i).flatMap (rowW (bwD m)))
        omega
      obtain ⟨er, hk, hkl, hbd, hcd⟩ := R
      have tk : ((rows.take (i + 1)).flatMap (rowW (bwD m))) = (rows.take i).flatMap (rowW (bwD m)) ++ (z :: (ks.zip ds).flatMap fun q => partW (bwD m) q.1 q.2) := by
        rw [List.take_add_one, List.getElem?_eq_getElem hir, List.flatMap_append, ← rowW_eq hk, ← er]
        show _ ++ (rowW (bwD m) rows[i] ++ []) = _
        rw [List.append_nil]
      rw [er] at hv hwr
      obtain ⟨ra, rxs, rfl, hrx, hrall⟩ := dp_tup hv
      cases hrall with
      | cons p0 hrall =>
      cases p0
      rename_i rxs
      have l1 : rxs.length = ds.length := dpAll_len hrall
      obtain ⟨sh, hsh, eks⟩ := shape_of hk
      have hshl : sh.cps.size = ks.length := by rw [← eks]; simp
      have e : wtD (.tuple (.str z :: ds)) = 4 + (z.length + 4 + wtAll ds) := rfl
      rw [e] at hwr
      rw [six] at h6
      have hpre := sm.sqt hrx
      refine ⟨_, rfl, .inl ⟨rfl, _, sl hfp⟩, _, rfl, _, _, _, .str z, rfl, rfl, hpre, atI_nat (j := 0) rfl, fp, _, _, rfl, rfl, hfp, ?_, ?_⟩
      · rw [List.length_map]; exact sz6 (by show ((rows.take i).flatMap (rowW (bwD m))).length ≤ 4000000; omega)
      have sm4 := sm.own (o := .lst (((rows.take i).flatMap (rowW (bwD m))).map V.str ++ [.str z])) nfp
      have hfp4 : (upd H3 fp (.lst (((rows.take i).flatMap (rowW (bwD m))).map V.str ++ [.str z]))) fp = some (.lst (((rows.take i).flatMap (rowW (bwD m)) ++ [z]).map V.str)) := by
        rw [upd_same, List.map_append]; rfl
      show Ends.nx _ _ (upd H3 fp (.lst (((rows.take i).flatMap (rowW (bwD m))).map V.str ++ [.str z])))
      refine nx_ ?_
      generalize upd H3 fp (.lst (((rows.take i).flatMap (rowW (bwD m))).map V.str ++ [.str z])) = H4 at sm4 hfp4 ⊢
      generalize hpre' : (rows.take i).flatMap (rowW (bwD m)) = pre at lpre tk hfp4
      refine ⟨_, rfl, _, _, _, .str z, rfl, rfl, sm4.sqt hrx, atI_nat (j := 0) rfl, z, sh, rfl, hsh, fun H5 s5 => ⟨_, rfl, _, rfl, ra, _, rfl, s5.sqt (sm4.sqt hrx), ?_, fun p np => ?_⟩⟩
      · rw [show (1 : Int) = ((1 : Nat) : Int) from rfl, HT.sIx_nat, List.length_cons, Nat.min_eq_left (by omega)]
        exact fun h => absurd h.1 (by decide)
      have hp6 : (upd H5 p (.tup (cutV (.str z :: rxs) (some 1) none))) p = some (.tup rxs) := by rw [upd_same, cut_tail]
      have s6 := same_upd (o := .tup (cutV (.str z :: rxs) (some 1) none)) np
      have sm6 := (sm4.trans s5).trans s6
      have hfp6 := s6 _ _ (s5 _ _ hfp4)
      refine ⟨sh, p, rxs, rfl, stt hp6, ?_⟩
      generalize upd H5 p (.tup (cutV (.str z :: rxs) (some 1) none)) = H6 at hp6 sm6 hfp6 ⊢
      have hrall6 := sm6.dpAll hrall
      clear s6 s5 hfp4 hpre hfp sm4
      refine for_it (HE.walk_zipST (x := sh) (ys := rxs) (n := ks.length) (by omega)) (fun j σ H7 => ∃ (fp : Addr) (y3 y4 : Option V), σ = [some (.ref a), some (.ref fp), some (.ref ra), y3, y4] ∧ Same H6 H7 ∧ H fp = none ∧ H7 fp = some (.lst (((pre ++ [z]) ++ ((ks.zip ds).take j).flatMap fun q => partW (bwD m) q.1 q.2).map V.str))) ?_ (fun j σ H7 _ g => ?_) ?_ ?_
      · exact ⟨fp, _, _, rfl, Same.refl _, nfp, by rw [List.take_zero]; show H6 fp = some (.lst (((pre ++ [z]) ++ []).map V.str)); rw [List.append_nil]; exact hfp6⟩
      · obtain ⟨_, _, _, _, sm7, _⟩ := g
        exact sm7.sqt (stt hp6)
      · rintro j σ x H7 H8 hj ⟨fp, y3, y4, rfl, sm7, nfp7, hfp7⟩ ⟨Tt, x1, x2, rfl, nT, rfl, g1, g2⟩
        have hjd : j < ds.length := by omega
        dsimp only at g1 g2
        have hjs : j < sh.cps.size := by omega
        rw [Array.getElem?_eq_getElem hjs] at g1
        cases g1
        obtain ⟨v2, ev2, hv2⟩ := dp_at hrall6 (i := j) (d := ds[j]) (List.getElem?_eq_getElem hjd)
        rw [ev2] at g2
        cases g2
        have s8 := same_upd (o := .tup [V.str ⟨#[sh.cps[j]]⟩, x2]) nT
        have hfp8 := s8 _ _ hfp7
        have hv8 := (sm7.trans s8).dp hv2
        have s68 := sm7.trans s8
        refine ⟨Tt, _, rfl, stt upd_same, rfl, _, _, rfl, _, _, rfl, rfl, ?_⟩
        show tIfS _ _ _ _ _ (upd H7 Tt (.tup [V.str ⟨#[sh.cps[j]]⟩, x2]))
        generalize upd H7 Tt (.tup [V.str ⟨#[sh.cps[j]]⟩, x2]) = H8 at s8 hfp8 hv8 s68 ⊢
        have hz : j < (ks.zip ds).length := by rw [List.length_zip]; omega
        have ez : (ks.zip ds)[j] = (ks[j], ds[j]) := List.getElem_zip
        have hq : (ks[j], ds[j]) ∈ ks.zip ds := by rw [← ez]; exact List.getElem_mem hz
        obtain ⟨w1, w2⟩ := hpart hq
        dsimp only at w1 w2
        rw [six] at w2
        have ekj : ks[j] = kindL z sh.cps[j] := by
          have : ks[j]? = some (kindL z sh.cps[j]) := by rw [← eks, List.getElem?_map, Array.getElem?_toList, Array.getElem?_eq_getElem hjs]; rfl
          rw [List.getElem?_eq_getElem hj] at this
          exact Option.some.inj this
        have hlt := letter_in hsh (Array.getElem?_eq_getElem hjs)
        have tk2 : ((ks.zip ds).take (j + 1)).flatMap (fun q => partW (bwD m) q.1 q.2) = ((ks.zip ds).take j).flatMap (fun q => partW (bwD m) q.1 q.2) ++ partW (bwD m) ks[j] ds[j] := by
          rw [List.take_add_one, List.getElem?_eq_getElem hz, List.flatMap_append, ez]
          show _ ++ (partW (bwD m) ks[j] ds[j] ++ []) = _
          rw [List.append_nil]
        have lpp : (((ks.zip ds).take j).flatMap fun q => partW (bwD m) q.1 q.2).length ≤ wtAll ds := by
          have h1 := wl_flat (g := fun q : Str × PyData => partW (bwD m) q.1 q.2) (v := fun q => wtD q.2) (xs := (ks.zip ds).take j) fun q hq => (hpart (List.mem_of_mem_take hq)).1
          have h2 := sum_take (v := fun q : Str × PyData => wtD q.2) (ks.zip ds) j
          have h3 := zip_wt (ks := ks) (ds := ds)
          have h4 := wl_len (((ks.zip ds).take j).flatMap fun q => partW (bwD m) q.1 q.2)
          omega
        have lpart := wl_len (partW (bwD m) ks[j] ds[j])
        have llen : ((pre ++ [z]) ++ ((ks.zip ds).take j).flatMap fun q => partW (bwD m) q.1 q.2).length ≤ 2000001 := by
          rw [List.length_append, List.length_append, List.length_singleton]; omega
        have eb2 : decide (V.str ⟨#[sh.cps[j]]⟩ = V.str "b") = decide (sh.cps[j] = 98) := by
          refine decide_eq_decide.mpr ⟨fun h => ?_, fun h => by rw [h]; decide⟩
          have h1 : (⟨#[sh.cps[j]]⟩ : Str) = "b" := V.str.inj h
          have h2 : (⟨#[sh.cps[j]]⟩ : Str) = ⟨#[98]⟩ := h1.trans (by decide)
          injection h2 with h3
          have := congrArg Array.toList h3
          simpa using this
        refine ⟨_, rfl, rfl, _, rfl, ?_⟩
        rw [eb2]
        refine ite2 (fun hb2 => ?_) (fun hb2 => ?_)
        · have hb2 := of_decide_eq_true hb2
          have hkb : ks[j] = "body" := ekj.trans ((kindL_body hlt).mpr hb2)
          obtain ⟨bs, eb, hp⟩ := hbd _ hq hkb
          dsimp only at eb
          have ep : partW (bwD m) ks[j] ds[j] = ([("{" : Str)] ++ bwD m bs) ++ [("}" : Str)] := by
            unfold partW
            rw [if_pos hkb, eb]
            rfl
          rw [ep] at tk2 w1
          rw [eb] at w1 w2 hv8
          have wb : wtD (.tuple bs) = 4 + wtAll bs := rfl
          have lw := wl_len (([("{" : Str)] ++ bwD m bs) ++ [("}" : Str)])
          simp only [List.length_append, List.length_cons, List.length_nil] at lw
          refine ⟨_, rfl, by show 1 ≤ sizeLine; decide, fun p1 n1 => ?_⟩
          have t1 := same_upd (o := .lst (([("{" : Str)] : List Str).map V.str)) n1
          have h1 : (upd H8 p1 (.lst (([("{" : Str)] : List Str).map V.str))) p1 = some (.lst (([("{" : Str)] : List Str).map V.str)) := upd_same
          refine catS (t1 _ _ hfp8) h1 (by show _ + 1 ≤ 4000000; omega) fun p2 H9 n2 t2 h2 => ?_
          refine ⟨_, rfl, x2, bs, rfl, (t1.trans t2).dp hv8, hp, by rw [six]; omega, fun p3 HA n3 t3 h3 => ?_⟩
          refine catS (t3 _ _ h2) h3 (by rw [List.length_append]; show _ + 1 + _ ≤ 4000000; omega) fun p4 HB n4 t4 h4 => ?_
          refine ⟨by show 1 ≤ sizeLine; decide, fun p5 n5 => ?_⟩
          have t5 := same_upd (o := .lst (([("}" : Str)] : List Str).map V.str)) n5
          have h5 : (upd HB p5 (.lst (([("}" : Str)] : List Str).map V.str))) p5 = some (.lst (([("}" : Str)] : List Str).map V.str)) := upd_same
          refine catS (t5 _ _ h4) h5 (by rw [List.length_append, List.length_append]; show _ + 1 + _ + 1 ≤ 4000000; omega) fun p6 HC n6 t6 h6' => ?_
          have tt := (((t1.trans t2).trans t3).trans t4).trans t5
          refine ⟨p6, _, _, rfl, s68.trans (tt.trans t6), ((sm6.trans s68).trans tt).free n6, ?_⟩
          rw [tk2]
          simpa only [List.append_assoc] using h6'
        · have hkb : ks[j] ≠ "body" := fun h => hb2 (decide_eq_true ((kindL_body hlt).mp (ekj ▸ h)))
          have ep : partW (bwD m) ks[j] ds[j] = cwD ds[j] := by
            unfold partW
            rw [if_neg hkb]
          rw [ep] at tk2 w1 lpart
          refine ⟨_, rfl, _, rfl, x2, ds[j], rfl, hv8, hcd _ hq hkb, by rw [six]; omega, fun p3 HA n3 t3 h3 => ?_⟩
          refine catS (t3 _ _ hfp8) h3 (by omega) fun p4 HB n4 t4 h4 => ?_
          refine ⟨p4, _, _, rfl, s68.trans (t3.trans t4), ((sm6.trans s68).trans t3).free n4, ?_⟩
          rw [tk2]
          simpa only [List.append_assoc] using h4
      · rintro σ H7 ⟨fp, y3, y4, rfl, sm7, nfp7, hfp7⟩
        refine ⟨fp, _, _, _, rfl, sm6.trans sm7, nfp7, ?_⟩
        rw [show ks.length = (ks.zip ds).length by rw [List.length_zip]; omega, List.take_length] at hfp7
        show H7 fp = some (.lst ((((rows.take (i + 1)).flatMap (rowW (bwD m)))).map V.str))
        rw [tk]
        simpa only [List.append_assoc, List.singleton_append] using hfp7
    · rintro σ H2 ⟨fp, y2, y3, y4, rfl, sm, nfp, hfp⟩
      refine ⟨_, rfl, ?_⟩
      rw [hl, List.take_length] at hfp
      refine q fp H2 nfp sm ?_
      cases n with
      | zero =>
        rw [show rows = [] from hok] at hfp
        exact hfp
      | succ m => exact hfp
end
end TP
namespace TP
open PySem PySem.Spec PyProof.Rows L2 HX HB HG HU HH HD HS HV HQ HK HN HJ TL
/-! ### sorted texts -/
theorem strs_alike (zs : List Str) : PySem.W.AllAlike (zs.map PyData.str) := by
  intro d hd d' hd'
  obtain ⟨p, _, rfl⟩ := List.mem_map.mp hd
  obtain ⟨q, _, rfl⟩ := List.mem_map.mp hd'
  rfl
theorem strs_sortable (zs : List Str) : PySem.W.Sortable (zs.map PyData.str) := by
  refine .inr fun d hd => ?_
  obtain ⟨p, _, rfl⟩ := List.mem_map.mp hd
  exact ⟨(fun h => by cases h), fun xs h => by cases h⟩
theorem strs_depth (zs : List Str) : ∀ d ∈ zs.map PyData.str, d.depth ≤ 60 := by
  intro d hd
  obtain ⟨p, _, rfl⟩ := List.mem_map.mp hd
  exact Nat.zero_le _
def unS : V → Str
  | .str z => z
  | _ => ""
def srt (zs : List Str) : List Str := (sortD (zs.map V.str) (zs.map PyData.str)).map unS
theorem unS_map : ∀ (l : List V), (∀ v ∈ l, ∃ z, v = .str z) → (l.map unS).map V.str = l
  | [], _ => rfl
  | v :: l, h => by
    obtain ⟨z, rfl⟩ := h v (List.mem_cons_self ..)
    rw [List.map_cons, List.map_cons, unS_map l fun w hw => h w (List.mem_cons_of_mem _ hw)]
    rfl
theorem srt_perm0 (zs : List Str) : (sortD (zs.map V.str) (zs.map PyData.str)).Perm (zs.map V.str) := sortD_perm (by rw [List.length_map, List.length_map])
theorem srt_eq (zs : List Str) : sortD (zs.map V.str) (zs.map PyData.str) = (srt zs).map V.str := by
  refine (unS_map _ fun v hv => ?_).symm
  have := (srt_perm0 zs).mem_iff.mp hv
  obtain ⟨z, _, rfl⟩ := List.mem_map.mp this
  exact ⟨z, rfl⟩
theorem srt_mem {zs : List Str} {z : Str} (h : z ∈ srt zs) : z ∈ zs := by
  unfold srt at h
  obtain ⟨v, hv, rfl⟩ := List.mem_map.mp h
  have := (srt_perm0 zs).mem_iff.mp hv
  obtain ⟨y, hy, rfl⟩ := List.mem_map.mp this
  exact hy
theorem srt_len (zs : List Str) : (srt zs).length = zs.length := by
  unfold srt
  rw [List.length_map, (srt_perm0 zs).length_eq, List.length_map]
def lookI (cs : List (Str × Int)) (z : Str) : Int := ((cs.find? fun q => decide (q.1 = z)).map (·.2)).getD 0
theorem val_dI (cs : List (Str × Int)) (z : Str) (h : z ∈ cs.map (·.1)) : valV (dI cs) (Sum.inr z : Key) = some (.int (lookI cs z)) ∧ ∃ q ∈ cs, q.2 = lookI cs z := by
  induction cs with
  | nil => cases h
  | cons p cs ih =>
    unfold lookI
    by_cases e : p.1 = z
    · have e2 : (p :: cs).find? (fun q => decide (q.1 = z)) = some p := List.find?_cons_of_pos (decide_eq_true e)
      rw [e2]
      refine ⟨?_, p, List.mem_cons_self .., rfl⟩
      unfold valV dI
      rw [List.map_cons, List.find?_cons_of_pos (p := fun kv : Key × V => decide (kv.1 = (Sum.inr z : Key))) (decide_eq_true (by show (Sum.inr p.1 : Key) = Sum.inr z; rw [e]))]
      rfl
    · have e2 : (p :: cs).find? (fun q => decide (q.1 = z)) = cs.find? (fun q => decide (q.1 = z)) := List.find?_cons_of_neg (by simpa using e)
      rw [e2]
      have h2 : z ∈ cs.map (·.1) := by
        rw [List.map_cons] at h
        rcases List.mem_cons.mp h with h | h
        · exact absurd h.symm e
        · exact h
      obtain ⟨i1, q, hq, i2⟩ := ih h2
      refine ⟨?_, q, List.mem_cons_of_mem _ hq, i2⟩
      unfold valV dI at i1 ⊢
      rw [List.map_cons, List.find?_cons_of_neg (p := fun kv : Key × V => decide (kv.1 = (Sum.inr z : Key))) (fun h => e (Sum.inr.inj (of_decide_eq_true h)))]
      exact i1
def cellW (kind : Str) (cs : List (Str × Int)) (z : Str) : List Str := [kind, z, intS (lookI cs z)]
def lockW (z : Str) : List Str := [("lock" : Str), z]
def headW (cs : List (Str × Int)) (ls : List Str) (hs : List (Str × Int)) : List Str := ((srt (cs.map (·.1))).flatMap (cellW "cell" cs) ++ ls.flatMap lockW) ++ (srt (hs.map (·.1))).flatMap (cellW "channel" hs)
theorem flat_lenc {f : Str → List Str} {n : Nat} (h : ∀ z, (f z).length = n) : ∀ zs : List Str, (zs.flatMap f).length = n * zs.length
  | [] => by simp
  | z :: zs => by rw [List.flatMap_cons, List.length_append, flat_lenc h zs, h z, List.length_cons]; rw [Nat.mul_add]; omega
theorem flat_take {f : Str → List Str} {zs : List Str} {i : Nat} (hi : i < zs.length) : (zs.take (i + 1)).flatMap f = (zs.take i).flatMap f ++ f zs[i] := by
  rw [List.take_add_one, List.getElem?_eq_getElem hi, List.flatMap_append]
  show _ ++ (f zs[i] ++ []) = _
  rw [List.append_nil]
theorem same_but {S H H' : Hp} {a : Addr} (s : Same S H) (b : But [a] H H') (n : S a = none) : Same S H' := fun x o h => b x o (s x o h) (by
  simp only [List.mem_cons, List.not_mem_nil, or_false]
  intro e
  rw [e, n] at h
  cases h)
theorem keys_dI (cs : List (Str × Int)) : (dI cs).map (fun kv => kV kv.1) = (cs.map (·.1)).map V.str := by unfold dI; rw [List.map_map, List.map_map]; rfl
theorem sz_small {cs : List (Str × Int)} {l u : Int} (h : Sz cs l u) (hl : -1000 ≤ l) (hu : u ≤ 1000) {z : Str} (hz : z ∈ cs.map (·.1)) : (lookI cs z).natAbs ≤ 10 ^ 13 := by
  obtain ⟨_, q, hq, e⟩ := val_dI cs z hz
  have := h.rng q hq
  rw [e] at this
  have e13 : (10 : Nat) ^ 13 = 10000000000000 := by decide
  omega
section
variable {P : Program} {w : World} {K : PySem.W.Frag} {mg : Str → Option Value} {base : Heap}
def spHw : Sp := fun vs H Q _ => ∃ (f l w : Addr) (cs : List (Str × Int)) (ls : List Str) (hs : List (Str × Int)), vs = [.ref f, .ref l, .ref w] ∧ H f = some (.dK (dI cs)) ∧ H l = some (.lst (ls.map V.str)) ∧ H w = some (.dK (dI hs)) ∧ Sz cs (-99) 99 ∧ Sz hs 1 4 ∧ ls.length ≤ 4 ∧
  ∀ p H', H p = none → Same H H' → H' p = some (.lst ((headW cs ls hs).map V.str)) → Q (.ref p) H'
theorem ok_hwords (T : Tp K w mg) : FnOk P w K mg base CX0 1 T.f_hwords T.fd_hwords ["cells", "locks", "channels"] spHw := by
  refine T.D_hwords.F.ok sc_hwords (fun vs H Q E h => ?_) (fun cdv A outer s H vs Q E hr h => ?_)
  · obtain ⟨f, l, w, cs, ls, hs, rfl, _⟩ := h
    rfl
  · obtain ⟨f, l, wd, cs, ls, hs, rfl, hf, hl, hw, zc, zh, ll, q⟩ := h
    have hu := hu_of hr
    refine ⟨_, (pss_cons (ps_set (i := 3) sc_hwords.nd rfl (.inl rfl) (pe_lst pa_nil))
  (pss_cons (ps_for PassesOwn.never rfl (pi_list (pe_callB (cr_sortD hr.units) (by rfl) T.sorted (by decide +kernel) (pa_cons (pe_callTy (call_listD rfl) (by rfl) T.list (by decide +kernel) (pa_cons (pv 0) pa_nil)) pa_nil))) (pg_name (i := 4) sc_hwords.nd rfl (.inl rfl))
  (pss_one (ps_expr (pe_bm PySem.F.plainAttrs_list PySem.F.slot_list_extend PySem.F.type_list_extend mt_extend (pv 3) (pa_cons (pe_lst (pa_cons pe_str (pa_cons (pv 4) (pa_cons (pe_callTy HJ.call_strIS (by rfl) T.str (by decide +kernel) (pa_cons (pe_dget hu (pv 0) (pv 4) (fun _ _ => rfl)) pa_nil)) pa_nil)))) pa_nil)))))
  (pss_cons (ps_for PassesOwn.never rfl (pi_list (pv 1)) (pg_name (i := 4) sc_hwords.nd rfl (.inl rfl))
  (pss_one (ps_expr (pe_bm PySem.F.plainAttrs_list PySem.F.slot_list_extend PySem.F.type_list_extend mt_extend (pv 3) (pa_cons (pe_lst (pa_cons pe_str (pa_cons (pv 4) pa_nil))) pa_nil)))))
  (pss_cons (ps_for PassesOwn.never rfl (pi_list (pe_callB (cr_sortD hr.units) (by rfl) T.sorted (by decide +kernel) (pa_cons (pe_callTy (call_listD rfl) (by rfl) T.list (by decide +kernel) (pa_cons (pv 2) pa_nil)) pa_nil))) (pg_name (i := 4) sc_hwords.nd rfl (.inl rfl))
  (pss_one (ps_expr (pe_bm PySem.F.plainAttrs_list PySem.F.slot_list_extend PySem.F.type_list_extend mt_extend (pv 3) (pa_cons (pe_lst (pa_cons pe_str (pa_cons (pv 4) (pa_cons (pe_callTy HJ.call_strIS (by rfl) T.str (by decide +kernel) (pa_cons (pe_dget hu (pv 2) (pv 4) (fun _ _ => rfl)) pa_nil)) pa_nil)))) pa_nil)))))
  (pss_one (ps_ret (pv 3))))))), ?_⟩
    have lc := zc.few
    have lh := zh.few
    refine ⟨Nat.zero_le _, fun f3 nf3 => ?_⟩
    have s1 := same_upd (o := .lst []) nf3
    have h3 : (upd H f3 (.lst [])) f3 = some (.lst []) := upd_same
    show tSeq _ _ _ _ (upd H f3 (.lst []))
    generalize upd H f3 (.lst []) = H1 at s1 h3 ⊢
    -- cell
    refine ⟨_, rfl, f, _, rfl, .inl (s1 _ _ hf), fun p np => ?_⟩
    rw [keys_dI]
    have t1 := same_upd (o := .lst ((cs.map (·.1)).map V.str)) np
    have hp1 : (upd H1 p (.lst ((cs.map (·.1)).map V.str))) p = some (.lst ((cs.map (·.1)).map V.str)) := upd_same
    refine ⟨p, _, _, rfl, sl hp1, dp_strs _, strs_alike _, strs_sortable _, strs_depth _, fun p2 np2 => ?_⟩
    rw [srt_eq]
    have t2 := same_upd (o := .lst ((srt (cs.map (·.1))).map V.str)) np2
    have hp2 : (upd (upd H1 p (.lst ((cs.map (·.1)).map V.str))) p2 (.lst ((srt (cs.map (·.1))).map V.str))) p2 = some (.lst ((srt (cs.map (·.1))).map V.str)) := upd_same
    have sA := s1.trans (t1.trans t2)
    have h3A := t2 _ _ (t1 _ _ h3)
    show ∃ _, _
    generalize upd (upd H1 p (.lst ((cs.map (·.1)).map V.str))) p2 (.lst ((srt (cs.map (·.1))).map V.str)) = HA at hp2 sA h3A ⊢
    have n23A : p2 ≠ f3 := fun e => by rw [e] at np2; exact absurd (t1 _ _ h3) (by rw [np2]; intro h; cases h)
    clear t1 t2 hp1 np np2 h3
    have memA : ∀ z ∈ srt (cs.map (·.1)), z ∈ cs.map (·.1) := fun z h => srt_mem h
    have lenA : (srt (cs.map (·.1))).length ≤ 4 := by rw [srt_len, List.length_map]; exact zc.few
    generalize eA : srt (cs.map (·.1)) = zsA at hp2 memA lenA ⊢
    refine ⟨p2, rfl, ⟨_, sl hp2⟩, for_it (walk_list (xs := zsA.map V.str)) (fun i σ H2 => ∃ y4 : Option V, σ = [some (.ref f), some (.ref l), some (.ref wd), some (.ref f3), y4] ∧ But [f3] HA H2 ∧ H2 f3 = some (.lst (((zsA.take i).flatMap (cellW "cell" cs)).map V.str))) ?_ (fun i σ H2 _ g => by obtain ⟨_, _, b, _⟩ := g; exact sl (b _ _ hp2 (by simpa using n23A))) ?_ ?_⟩
    · exact ⟨_, rfl, But.refl _, by rw [List.take_zero]; simpa using h3A⟩
    · rintro i σ x H2 H3 hi ⟨y4, rfl, b, hf3⟩ ⟨rfl, g⟩
      rw [List.length_map] at hi
      rw [List.getElem?_map, List.getElem?_eq_getElem hi] at g
      cases g
      have hzm := memA _ (List.getElem_mem hi)
      have hsm := same_but sA b nf3
      have hv := (val_dI cs _ hzm).1
      have dg : DGet H3 f (.str zsA[i]) (some (.int (lookI cs zsA[i]))) := hv ▸ DGet.k (k := Sum.inr zsA[i]) (hsm _ _ hf)
      refine ⟨_, rfl, .inl ⟨rfl, _, sl hf3⟩, _, rfl, _, rfl, _, rfl, f, _, rfl, dg, .inl ⟨_, rfl, int_small (sz_small zc (by decide) (by decide) hzm), by show 3 ≤ sizeLine; decide, fun p np => ?_⟩⟩
      have tp := same_upd (o := .lst ((cellW "cell" cs zsA[i]).map V.str)) np
      have hp : (upd H3 p (.lst ((cellW "cell" cs zsA[i]).map V.str))) p = some (.lst ((cellW "cell" cs zsA[i]).map V.str)) := upd_same
      refine ⟨f3, p, _, _, rfl, rfl, tp _ _ hf3, hp, ?_, _, rfl, (b.trans (But.of tp)).set (by simp), ?_⟩
      · rw [List.length_map, List.length_map]
        refine Nat.le_of_lt (sz6 ?_)
        have e1 := flat_lenc (f := cellW "cell" cs) (n := 3) (fun _ => rfl) (zsA.take i)
        rw [List.length_take] at e1
        show _ + 3 ≤ 4000000
        omega
      · rw [upd_same, flat_take hi, ← List.map_append]
        try rw [List.append_assoc]
    rintro σ H2 ⟨y4, rfl, b, h3⟩
    rw [List.length_map, List.take_length] at h3
    have s2 := same_but sA b nf3
    refine nx_ ?_
    have lW1 : (zsA.flatMap (cellW "cell" cs)).length ≤ 12 := by have := flat_lenc (f := cellW "cell" cs) (n := 3) (fun _ => rfl) zsA; omega
    generalize eW1 : zsA.flatMap (cellW "cell" cs) = W1 at h3 lW1
    clear b sA hp2 h3A n23A memA lenA
    have lf3 : l ≠ f3 := fun e => by rw [e, nf3] at hl; cases hl
    -- locks
    have s02 := s2
    refine ⟨_, rfl, l, rfl, ⟨_, sl (s2 _ _ hl)⟩, for_it (walk_list (xs := ls.map V.str)) (fun i σ H3 => ∃ y4 : Option V, σ = [some (.ref f), some (.ref l), some (.ref wd), some (.ref f3), y4] ∧ But [f3] H2 H3 ∧ H3 f3 = some (.lst ((W1 ++ (ls.take i).flatMap lockW).map V.str))) ?_ (fun i σ H3 _ g => by obtain ⟨_, _, b, _⟩ := g; exact sl (b _ _ (s2 _ _ hl) (by simpa using lf3))) ?_ ?_⟩
    · exact ⟨_, rfl, But.refl _, by rw [List.take_zero]; simpa using h3⟩
    · rintro i σ x H3 H4 hi ⟨y4, rfl, b, hf3⟩ ⟨rfl, g⟩
      rw [List.length_map] at hi
      rw [List.getElem?_map, List.getElem?_eq_getElem hi] at g
      cases g
      refine ⟨_, rfl, .inl ⟨rfl, _, sl hf3⟩, _, rfl, by show 2 ≤ sizeLine; decide, fun p np => ?_⟩
      have tp := same_upd (o := .lst ((lockW ls[i]).map V.str)) np
      have hp : (upd H4 p (.lst ((lockW ls[i]).map V.str))) p = some (.lst ((lockW ls[i]).map V.str)) := upd_same
      refine ⟨f3, p, _, _, rfl, rfl, tp _ _ hf3, hp, ?_, _, rfl, (b.trans (But.of tp)).set (by simp), ?_⟩
      · rw [List.length_map, List.length_map]
        refine Nat.le_of_lt (sz6 ?_)
        have e1 := flat_lenc (f := lockW) (n := 2) (fun _ => rfl) (ls.take i)
        rw [List.length_take] at e1
        rw [List.length_append]
        show _ + _ + 2 ≤ 4000000
        omega
      · rw [upd_same, flat_take hi, ← List.map_append, List.append_assoc]
    rintro σ H2 ⟨y4, rfl, b, h3⟩
    rw [List.length_map, List.take_length] at h3
    have s2 := same_but s02 b nf3
    refine nx_ ?_
    have lW2 : (W1 ++ ls.flatMap lockW).length ≤ 20 := by have := flat_lenc (f := lockW) (n := 2) (fun _ => rfl) ls; rw [List.length_append]; omega
    generalize eW2 : W1 ++ ls.flatMap lockW = W2 at h3 lW2
    clear b s02
    -- channel
    refine ⟨_, rfl, wd, _, rfl, .inl (s2 _ _ hw), fun p np => ?_⟩
    rw [keys_dI]
    have t1 := same_upd (o := .lst ((hs.map (·.1)).map V.str)) np
    have hp1 : (upd H2 p (.lst ((hs.map (·.1)).map V.str))) p = some (.lst ((hs.map (·.1)).map V.str)) := upd_same
    refine ⟨p, _, _, rfl, sl hp1, dp_strs _, strs_alike _, strs_sortable _, strs_depth _, fun p2 np2 => ?_⟩
    rw [srt_eq]
    have t2 := same_upd (o := .lst ((srt (hs.map (·.1))).map V.str)) np2
    have hp2 : (upd (upd H2 p (.lst ((hs.map (·.1)).map V.str))) p2 (.lst ((srt (hs.map (·.1))).map V.str))) p2 = some (.lst ((srt (hs.map (·.1))).map V.str)) := upd_same
    have sC := s2.trans (t1.trans t2)
    have h3C := t2 _ _ (t1 _ _ h3)
    show ∃ _, _
    generalize upd (upd H2 p (.lst ((hs.map (·.1)).map V.str))) p2 (.lst ((srt (hs.map (·.1))).map V.str)) = HC at hp2 sC h3C ⊢
    have n23C : p2 ≠ f3 := fun e => by rw [e] at np2; exact absurd (t1 _ _ h3) (by rw [np2]; intro h; cases h)
    clear t1 t2 hp1 np np2 h3
    have memC : ∀ z ∈ srt (hs.map (·.1)), z ∈ hs.map (·.1) := fun z h => srt_mem h
    have lenC : (srt (hs.map (·.1))).length ≤ 4 := by rw [srt_len, List.length_map]; exact zh.few
    generalize eC : srt (hs.map (·.1)) = zsC at hp2 memC lenC ⊢
    refine ⟨p2, rfl, ⟨_, sl hp2⟩, for_it (walk_list (xs := zsC.map V.str)) (fun i σ H2 => ∃ y4 : Option V, σ = [some (.ref f), some (.ref l), some (.ref wd), some (.ref f3), y4] ∧ But [f3] HC H2 ∧ H2 f3 = some (.lst ((W2 ++ (zsC.take i).flatMap (cellW "channel" hs)).map V.str))) ?_ (fun i σ H2 _ g => by obtain ⟨_, _, b, _⟩ := g; exact sl (b _ _ hp2 (by simpa using n23C))) ?_ ?_⟩
    · exact ⟨_, rfl, But.refl _, by rw [List.take_zero]; simpa using h3C⟩
    · rintro i σ x H2 H3 hi ⟨y4, rfl, b, hf3⟩ ⟨rfl, g⟩
      rw [List.length_map] at hi
      rw [List.getElem?_map, List.getElem?_eq_getElem hi] at g
      cases g
      have hzm := memC _ (List.getElem_mem hi)
      have hsm := same_but sC b nf3
      have hv := (val_dI hs _ hzm).1
      have dg : DGet H3 wd (.str zsC[i]) (some (.int (lookI hs zsC[i]))) := hv ▸ DGet.k (k := Sum.inr zsC[i]) (hsm _ _ hw)
      refine ⟨_, rfl, .inl ⟨rfl, _, sl hf3⟩, _, rfl, _, rfl, _, rfl, wd, _, rfl, dg, .inl ⟨_, rfl, int_small (sz_small zh (by decide) (by decide) hzm), by show 3 ≤ sizeLine; decide, fun p np => ?_⟩⟩
      have tp := same_upd (o := .lst ((cellW "channel" hs zsC[i]).map V.str)) np
      have hp : (upd H3 p (.lst ((cellW "channel" hs zsC[i]).map V.str))) p = some (.lst ((cellW "channel" hs zsC[i]).map V.str)) := upd_same
      refine ⟨f3, p, _, _, rfl, rfl, tp _ _ hf3, hp, ?_, _, rfl, (b.trans (But.of tp)).set (by simp), ?_⟩
      · rw [List.length_map, List.length_map]
        refine Nat.le_of_lt (sz6 ?_)
        have e1 := flat_lenc (f := cellW "channel" hs) (n := 3) (fun _ => rfl) (zsC.take i)
        rw [List.length_take] at e1
        rw [List.length_append]
        show _ + _ + 3 ≤ 4000000
        omega
      · rw [upd_same, flat_take hi, ← List.map_append, List.append_assoc]
    rintro σ H2 ⟨y4, rfl, b, h3⟩
    rw [List.length_map, List.take_length] at h3
    refine ⟨_, rfl, q f3 H2 nf3 (same_but sC b nf3) ?_⟩
    unfold headW
    rw [eA, eC, eW1, eW2]
    exact h3
end
end TP
namespace TP
open PySem PySem.Spec PyProof.Rows L2 HX HB HG HU HH HD HS HV HQ HK HN HJ TL
/-! ### lists of texts within a list -/
inductive LL (H : Hp) (D : Option Addr) : List V → List (List Str) → Prop
  | nil : LL H D [] []
  | cons {a : Addr} {zs : List Str} {vs : List V} {wss : List (List Str)} (h : H a = some (.lst (zs.map V.str))) (n : some a ≠ D) (t : LL H D vs wss) : LL H D (.ref a :: vs) (zs :: wss)
section
variable {H H' : Hp} {D : Option Addr} {vs ys : List V} {wss yss : List (List Str)}
theorem LL.same (l : LL H D vs wss) (s : Same H H') : LL H' D vs wss := by
  induction l with
  | nil => exact .nil
  | cons h n t ih => exact .cons (s _ _ h) n ih
theorem LL.set {p : Addr} {o : HO} (l : LL H (some p) vs wss) : LL (upd H p o) (some p) vs wss := by
  induction l with
  | nil => exact .nil
  | cons h n t ih => exact .cons (by rw [upd_ne (fun e => n (congrArg some e))]; exact h) n ih
theorem LL.free (l : LL H D vs wss) : LL H none vs wss := by
  induction l with
  | nil => exact .nil
  | cons h n t ih => exact .cons h (by simp) ih
theorem LL.app (l : LL H D vs wss) (m : LL H D ys yss) : LL H D (vs ++ ys) (wss ++ yss) := by
  induction l with
  | nil => exact m
  | cons h n t ih => exact .cons h n ih
theorem LL.len (l : LL H D vs wss) : vs.length = wss.length := by
  induction l with
  | nil => rfl
  | cons h n t ih => rw [List.length_cons, List.length_cons, ih]
theorem LL.at_ (l : LL H D vs wss) : ∀ {i : Nat} {v : V}, vs[i]? = some v → ∃ (a : Addr) (zs : List Str), v = .ref a ∧ wss[i]? = some zs ∧ H a = some (.lst (zs.map V.str)) := by
  induction l with
  | nil => intro i v h; simp at h
  | @cons a zs vs wss h n t ih =>
    intro i v e
    cases i with
    | zero => cases e; exact ⟨a, zs, rfl, rfl, h⟩
    | succ i => exact ih e
end
def headsL (cs : List (Str × Int)) (ls : List Str) (hs : List (Str × Int)) : List (List Str) := ((srt (cs.map (·.1))).map (cellW "cell" cs) ++ ls.map lockW) ++ (srt (hs.map (·.1))).map (cellW "channel" hs)
theorem heads_flat (cs : List (Str × Int)) (ls : List Str) (hs : List (Str × Int)) : (headsL cs ls hs).flatten = headW cs ls hs := by
  unfold headsL headW
  rw [List.flatten_append, List.flatten_append, List.flatMap_def, List.flatMap_def, List.flatMap_def]
theorem map_take {α β : Type} {f : α → β} {zs : List α} {i : Nat} (hi : i < zs.length) : (zs.take (i + 1)).map f = (zs.take i).map f ++ [f zs[i]] := by
  rw [List.take_add_one, List.getElem?_eq_getElem hi, List.map_append]
  rfl
section
variable {P : Program} {w : World} {K : PySem.W.Frag} {mg : Str → Option Value} {base : Heap}
def spHeads : Sp := fun vs H Q _ => ∃ (d g c pl C L Ch W : Addr) (cs : List (Str × Int)) (ls : List Str) (hs : List (Str × Int)) (ws : List Str) (k : Nat), vs = [.ref pl] ∧ Play H d g c pl C L Ch W cs ls hs ws k ∧ Nm cs ls hs ws ∧
  ∀ p us H', H p = none → Same H H' → H' p = some (.lst us) → LL H' none us (headsL cs ls hs) → Q (.ref p) H'
theorem ok_heads (T : Tp K w mg) : FnOk P w K mg base CX0 1 T.f_heads T.fd_heads ["_law_play"] spHeads := by
  refine T.D_heads.F.ok sc_heads (fun vs H Q E h => ?_) (fun cdv A outer s H vs Q E hr h => ?_)
  · obtain ⟨d, g, c, pl, C, L, Ch, W, cs, ls, hs, ws, k, rfl, _⟩ := h
    rfl
  · obtain ⟨d, g, c, pl, C, Lk, Ch, W, cs, ls, hs, ws, k, rfl, Y, N, q⟩ := h
    have hu := hu_of hr
    have zc := N.cells
    have zh := N.lanes
    refine ⟨_, (pss_cons (ps_setLc (i := 1) (own := [("_law_name_here", 2)]) (g := gName 2) (by rfl) sc_heads.nd rfl rfl (sw_true rfl rfl rfl (by decide +kernel)) (pi_list (pe_callB (cr_sortD hr.units) (by rfl) T.sorted (by decide +kernel) (pa_cons (pe_callTy (call_listD rfl) (by rfl) T.list (by decide +kernel) (pa_cons (pe_dget hu (pv 0) pe_str (fun _ _ => rfl)) pa_nil)) pa_nil))) (blkOk_by (own := [("_law_name_here", 2)]) (N := ["_law_play", "_law_found", "_law_name_here"]) (sc := defScope s_heads) (by decide +kernel)) (fun _ _ _ _ _ => (pg_name (i := 2) sc_heads.nd rfl (.inl rfl))) (fun _ _ _ _ _ => pts_nil) (fun _ _ _ _ _ => (pe_lst (pa_cons pe_str (pa_cons (pv 2) (pa_cons (pe_callTy HJ.call_strIS (by rfl) T.str (by decide +kernel) (pa_cons (pe_dget hu (pe_dget hu (pv 0) pe_str (fun _ _ => rfl)) (pv 2) (fun _ _ => rfl)) pa_nil)) pa_nil))))))
  (pss_cons (ps_set (i := 1) sc_heads.nd rfl (.inl rfl) (pe_op op_cat (pv 1) (pe_lc (own := [("_law_name_here", 2)]) (g := gName 2) (by rfl) sc_heads.nd (pi_list (pe_dget hu (pv 0) pe_str (fun _ _ => rfl))) (blkOk_by (own := [("_law_name_here", 2)]) (N := ["_law_play", "_law_found", "_law_name_here"]) (sc := defScope s_heads) (by decide +kernel)) (fun _ _ _ _ _ => (pg_name (i := 2) sc_heads.nd rfl (.inl rfl))) (fun _ _ _ _ _ => pts_nil) (fun _ _ _ _ _ => (pe_lst (pa_cons pe_str (pa_cons (pv 2) pa_nil)))))))
  (pss_one (ps_ret (pe_op op_cat (pv 1) (pe_lc (own := [("_law_name_here", 2)]) (g := gName 2) (by rfl) sc_heads.nd (pi_list (pe_callB (cr_sortD hr.units) (by rfl) T.sorted (by decide +kernel) (pa_cons (pe_callTy (call_listD rfl) (by rfl) T.list (by decide +kernel) (pa_cons (pe_dget hu (pv 0) pe_str (fun _ _ => rfl)) pa_nil)) pa_nil))) (blkOk_by (own := [("_law_name_here", 2)]) (N := ["_law_play", "_law_found", "_law_name_here"]) (sc := defScope s_heads) (by decide +kernel)) (fun _ _ _ _ _ => (pg_name (i := 2) sc_heads.nd rfl (.inl rfl))) (fun _ _ _ _ _ => pts_nil) (fun _ _ _ _ _ => (pe_lst (pa_cons pe_str (pa_cons (pv 2) (pa_cons (pe_callTy HJ.call_strIS (by rfl) T.str (by decide +kernel) (pa_cons (pe_dget hu (pe_dget hu (pv 0) pe_str (fun _ _ => rfl)) (pv 2) (fun _ _ => rfl)) pa_nil)) pa_nil))))))))))), ?_⟩
    have s0 := Same.refl H
    -- cell
    refine ⟨_, rfl, pl, _, rfl, DGet.k (k := Sum.inr "cells") (Y.same s0).hpl, C, _, rfl, .inl (Y.same s0).hC, fun p np => ?_⟩
    rw [keys_dI]
    have t1 := same_upd (o := .lst ((cs.map (·.1)).map V.str)) np
    have hp1 : (upd H p (.lst ((cs.map (·.1)).map V.str))) p = some (.lst ((cs.map (·.1)).map V.str)) := upd_same
    refine ⟨p, _, _, rfl, sl hp1, dp_strs _, strs_alike _, strs_sortable _, strs_depth _, fun p2 np2 => ?_⟩
    rw [srt_eq]
    have t2 := same_upd (o := .lst ((srt (cs.map (·.1))).map V.str)) np2
    have hp2 : (upd (upd H p (.lst ((cs.map (·.1)).map V.str))) p2 (.lst ((srt (cs.map (·.1))).map V.str))) p2 = some (.lst ((srt (cs.map (·.1))).map V.str)) := upd_same
    have sA := s0.trans (t1.trans t2)
    have iA := t1.trans t2
    have memA : ∀ z ∈ srt (cs.map (·.1)), z ∈ cs.map (·.1) := fun z h => srt_mem h
    have lenA : (srt (cs.map (·.1))).length ≤ 4 := by rw [srt_len, List.length_map]; exact zc.few
    refine ⟨p2, rfl, ⟨_, sl hp2⟩, fun DA nD => ?_⟩
    have nD : (upd (upd H p (.lst ((cs.map (·.1)).map V.str))) p2 (.lst ((srt (cs.map (·.1))).map V.str))) DA = none := nD
    show ∃ W' : Nat → Nat → Hp → Prop, (∃ m, W' 0 m (upd (upd (upd H p (.lst ((cs.map (·.1)).map V.str))) p2 (.lst ((srt (cs.map (·.1))).map V.str))) DA (.lst []))) ∧ _
    generalize upd (upd H p (.lst ((cs.map (·.1)).map V.str))) p2 (.lst ((srt (cs.map (·.1))).map V.str)) = HA at hp2 sA iA nD ⊢
    clear t1 t2 hp1 np np2
    generalize eA : srt (cs.map (·.1)) = zsA at hp2 memA lenA ⊢
    refine lc_it (walk_list (xs := zsA.map V.str)) (fun i H6 => Same HA H6 ∧ ∃ us, H6 DA = some (.lst us) ∧ LL H6 (some DA) us ((zsA.take i).map (cellW "cell" cs))) ⟨same_upd nD, [], upd_same, .nil⟩ (fun i H6 _ g => sl (g.1 _ _ hp2)) ?_ ?_
    · rintro i x H5 H6 hi ⟨sm, us, hR, hus⟩ ⟨rfl, g⟩
      rw [List.length_map] at hi
      rw [List.getElem?_map, List.getElem?_eq_getElem hi] at g
      cases g
      have hzm := memA _ (List.getElem_mem hi)
      have Y6 := (Y.same sA).same sm
      have hv := (val_dI cs _ hzm).1
      have dg : DGet H6 C (.str zsA[i]) (some (.int (lookI cs zsA[i]))) := hv ▸ DGet.k (k := Sum.inr zsA[i]) Y6.hC
      refine ⟨rfl, _, rfl, _, rfl, pl, _, rfl, DGet.k (k := Sum.inr "cells") Y6.hpl, _, rfl, C, _, rfl, dg, .inl ⟨_, rfl, int_small (sz_small zc (by decide) (by decide) hzm), by show 3 ≤ sizeLine; decide, fun p np => ?_⟩⟩
      have tp := same_upd (o := .lst ((cellW "cell" cs zsA[i]).map V.str)) np
      have hp : (upd H6 p (.lst ((cellW "cell" cs zsA[i]).map V.str))) p = some (.lst ((cellW "cell" cs zsA[i]).map V.str)) := upd_same
      have npD : p ≠ DA := fun e => by rw [e, hR] at np; cases np
      have hlen := hus.len
      rw [List.length_map, List.length_take] at hlen
      refine ⟨us, tp _ _ hR, small1000 (by omega), (sm.trans tp).own nD, us ++ [.ref p], upd_same, ?_⟩
      rw [map_take hi]
      exact ((hus.same tp).app (.cons hp (fun e => npD (Option.some.inj e)) .nil)).set
    rintro HA2 ⟨smA, usA, hRA, husA⟩
    rw [List.length_map, List.take_length] at husA
    have fDA : H DA = none := sA.free nD
    have husA := husA.free
    have sA := sA.trans smA
    have iA := iA.trans smA
    have lnA : usA.length ≤ 4 := by rw [husA.len, List.length_map]; exact lenA
    clear hp2 nD smA
    refine nm_ ?_
    -- locks
    have YA := Y.same sA
    refine ⟨_, rfl, _, rfl, pl, _, rfl, DGet.k (k := Sum.inr "locks") YA.hpl, Lk, rfl, ⟨_, sl YA.hL⟩, fun DB nD => ?_⟩
    refine lc_it (walk_list (xs := ls.map V.str)) (fun i H6 => Same HA2 H6 ∧ ∃ us, H6 DB = some (.lst us) ∧ LL H6 (some DB) us ((ls.take i).map lockW)) ⟨same_upd nD, [], upd_same, .nil⟩ (fun i H6 _ g => sl (YA.same g.1).hL) ?_ ?_
    · rintro i x H5 H6 hi ⟨sm, us, hR, hus⟩ ⟨rfl, g⟩
      rw [List.length_map] at hi
      rw [List.getElem?_map, List.getElem?_eq_getElem hi] at g
      cases g
      refine ⟨rfl, _, rfl, by show 2 ≤ sizeLine; decide, fun p np => ?_⟩
      have tp := same_upd (o := .lst ((lockW ls[i]).map V.str)) np
      have hp : (upd H6 p (.lst ((lockW ls[i]).map V.str))) p = some (.lst ((lockW ls[i]).map V.str)) := upd_same
      have npD : p ≠ DB := fun e => by rw [e, hR] at np; cases np
      have hlen := hus.len
      rw [List.length_map, List.length_take] at hlen
      have := N.lfew
      refine ⟨us, tp _ _ hR, small1000 (by omega), (sm.trans tp).own nD, us ++ [.ref p], upd_same, ?_⟩
      rw [map_take hi]
      exact ((hus.same tp).app (.cons hp (fun e => npD (Option.some.inj e)) .nil)).set
    rintro HB2 ⟨smB, usB, hRB, husB⟩
    rw [List.length_map, List.take_length] at husB
    have husB := husB.free
    have lnB : usB.length ≤ 4 := by rw [husB.len, List.length_map]; exact N.lfew
    refine ⟨DA, DB, _, _, rfl, rfl, smB _ _ hRA, hRB, Nat.le_of_lt (small1000 (by omega)), fun F1 nF1 => nm_ ?_⟩
    have s4 := same_upd (o := .lst (usA ++ usB)) nF1
    have hF1 : (upd HB2 F1 (.lst (usA ++ usB))) F1 = some (.lst (usA ++ usB)) := upd_same
    have husAB := ((husA.same smB).app husB).same s4
    have s5 := (sA.trans smB).trans s4
    show tRet _ _ _ (upd HB2 F1 (.lst (usA ++ usB)))
    generalize upd HB2 F1 (.lst (usA ++ usB)) = H7 at hF1 husAB s5 ⊢
    clear s4 nF1 hRA hRB husA husB smB sA iA fDA memA lenA
    -- channel
    refine ⟨_, rfl, _, rfl, pl, _, rfl, DGet.k (k := Sum.inr "channels") (Y.same s5).hpl, Ch, _, rfl, .inl (Y.same s5).hCh, fun p np => ?_⟩
    rw [keys_dI]
    have t1 := same_upd (o := .lst ((hs.map (·.1)).map V.str)) np
    have hp1 : (upd H7 p (.lst ((hs.map (·.1)).map V.str))) p = some (.lst ((hs.map (·.1)).map V.str)) := upd_same
    refine ⟨p, _, _, rfl, sl hp1, dp_strs _, strs_alike _, strs_sortable _, strs_depth _, fun p2 np2 => ?_⟩
    rw [srt_eq]
    have t2 := same_upd (o := .lst ((srt (hs.map (·.1))).map V.str)) np2
    have hp2 : (upd (upd H7 p (.lst ((hs.map (·.1)).map V.str))) p2 (.lst ((srt (hs.map (·.1))).map V.str))) p2 = some (.lst ((srt (hs.map (·.1))).map V.str)) := upd_same
    have sC := s5.trans (t1.trans t2)
    have iC := t1.trans t2
    have memC : ∀ z ∈ srt (hs.map (·.1)), z ∈ hs.map (·.1) := fun z h => srt_mem h
    have lenC : (srt (hs.map (·.1))).length ≤ 4 := by rw [srt_len, List.length_map]; exact zh.few
    refine ⟨p2, rfl, ⟨_, sl hp2⟩, fun DC nD => ?_⟩
    have nD : (upd (upd H7 p (.lst ((hs.map (·.1)).map V.str))) p2 (.lst ((srt (hs.map (·.1))).map V.str))) DC = none := nD
    show ∃ W' : Nat → Nat → Hp → Prop, (∃ m, W' 0 m (upd (upd (upd H7 p (.lst ((hs.map (·.1)).map V.str))) p2 (.lst ((srt (hs.map (·.1))).map V.str))) DC (.lst []))) ∧ _
    generalize upd (upd H7 p (.lst ((hs.map (·.1)).map V.str))) p2 (.lst ((srt (hs.map (·.1))).map V.str)) = HC at hp2 sC iC nD ⊢
    clear t1 t2 hp1 np np2
    generalize eC : srt (hs.map (·.1)) = zsC at hp2 memC lenC ⊢
    refine lc_it (walk_list (xs := zsC.map V.str)) (fun i H6 => Same HC H6 ∧ ∃ us, H6 DC = some (.lst us) ∧ LL H6 (some DC) us ((zsC.take i).map (cellW "channel" hs))) ⟨same_upd nD, [], upd_same, .nil⟩ (fun i H6 _ g => sl (g.1 _ _ hp2)) ?_ ?_
    · rintro i x H5 H6 hi ⟨sm, us, hR, hus⟩ ⟨rfl, g⟩
      rw [List.length_map] at hi
      rw [List.getElem?_map, List.getElem?_eq_getElem hi] at g
      cases g
      have hzm := memC _ (List.getElem_mem hi)
      have Y6 := (Y.same sC).same sm
      have hv := (val_dI hs _ hzm).1
      have dg : DGet H6 Ch (.str zsC[i]) (some (.int (lookI hs zsC[i]))) := hv ▸ DGet.k (k := Sum.inr zsC[i]) Y6.hCh
      refine ⟨rfl, _, rfl, _, rfl, pl, _, rfl, DGet.k (k := Sum.inr "channels") Y6.hpl, _, rfl, Ch, _, rfl, dg, .inl ⟨_, rfl, int_small (sz_small zh (by decide) (by decide) hzm), by show 3 ≤ sizeLine; decide, fun p np => ?_⟩⟩
      have tp := same_upd (o := .lst ((cellW "channel" hs zsC[i]).map V.str)) np
      have hp : (upd H6 p (.lst ((cellW "channel" hs zsC[i]).map V.str))) p = some (.lst ((cellW "channel" hs zsC[i]).map V.str)) := upd_same
      have npD : p ≠ DC := fun e => by rw [e, hR] at np; cases np
      have hlen := hus.len
      rw [List.length_map, List.length_take] at hlen
      refine ⟨us, tp _ _ hR, small1000 (by omega), (sm.trans tp).own nD, us ++ [.ref p], upd_same, ?_⟩
      rw [map_take hi]
      exact ((hus.same tp).app (.cons hp (fun e => npD (Option.some.inj e)) .nil)).set
    rintro HC2 ⟨smC, usC, hRC, husC⟩
    rw [List.length_map, List.take_length] at husC
    have fDC : H DC = none := sC.free nD
    have husC := husC.free
    have sC := sC.trans smC
    have iC := iC.trans smC
    have lnC : usC.length ≤ 4 := by rw [husC.len, List.length_map]; exact lenC
    clear hp2 nD smC
    refine ⟨F1, DC, _, _, rfl, rfl, iC _ _ hF1, hRC, Nat.le_of_lt (small1000 (by rw [List.length_append]; omega)), fun p np => ?_⟩
    have t9 := same_upd (o := .lst ((usA ++ usB) ++ usC)) np
    refine q p ((usA ++ usB) ++ usC) _ (sC.free np) (sC.trans t9) upd_same ?_
    unfold headsL
    rw [eA, eC]
    exact ((husAB.same iC).app husC).same t9
end
end TP
namespace TP
open PySem PySem.Spec PyProof.Rows L2 HX HB HG HU HH HD HS HV HQ HK HN HJ TL
/-! ### a whole text -/
def textW (cs : List (Str × Int)) (ls : List Str) (hs : List (Str × Int)) (rows : List PyData) : Str := Txt.join " " (headW cs ls hs ++ bwD 12 rows)
theorem headW_len {cs : List (Str × Int)} {ls : List Str} {hs : List (Str × Int)} (h1 : cs.length ≤ 4) (h2 : ls.length ≤ 4) (h3 : hs.length ≤ 4) : (headW cs ls hs).length ≤ 32 := by
  unfold headW
  have e1 := flat_lenc (f := cellW "cell" cs) (n := 3) (fun _ => rfl) (srt (cs.map (·.1)))
  have e2 := flat_lenc (f := lockW) (n := 2) (fun _ => rfl) ls
  have e3 := flat_lenc (f := cellW "channel" hs) (n := 3) (fun _ => rfl) (srt (hs.map (·.1)))
  rw [srt_len, List.length_map] at e1 e3
  rw [List.length_append, List.length_append]
  omega
end TP
namespace TP
open PySem PySem.Spec PyProof.Rows L2 HX HB HG HU HH HD HS HV HQ HK HN HJ TL
theorem join_len {zs : List Str} : (zs.map (·.length)).sum + zs.length * 1 = wl zs := by
  induction zs with
  | nil => rfl
  | cons z zs ih =>
    rw [List.map_cons, List.sum_cons, List.length_cons, wl_cons]
    omega
section
variable {P : Program} {w : World} {K : PySem.W.Frag} {mg : Str → Option Value} {base : Heap}
/-- a program that stands, of right rows -/
structure Pg (K : PySem.W.Frag) (H0 H : Hp) (p C : Addr) (cs : List (Str × Int)) (ls : List Str) (hs : List (Str × Int)) (rows : List PyData) : Prop where
  ex : ∃ (dx : Addr) (fs : List (Str × V)) (b : V) (f l w : Addr), H p = some (.ins C dx fs) ∧ fs.lookup ("tree" : Str) = some b ∧ fs.lookup ("first" : Str) = some (.ref f) ∧ fs.lookup ("bolts" : Str) = some (.ref l) ∧ fs.lookup ("widths" : Str) = some (.ref w) ∧ Dp K H b (.tuple rows) ∧ H f = some (.dK (dI cs)) ∧ H l = some (.lst (ls.map V.str)) ∧ H w = some (.dK (dI hs)) ∧ H0 p = none ∧ H0 f = none ∧ H0 l = none ∧ H0 w = none
  cells : Sz cs (-99) 99
  lanes : Sz hs 1 4
  lfew : ls.length ≤ 4
  lnm : ∀ z ∈ ls, isNameL z = true
  rok : rowsOk 12 rows
  wt : wtAll rows ≤ 30000
  tup : tupAll rows = true
def spStr (K : PySem.W.Frag) (C : Addr) : Sp := fun vs H Q _ => ∃ (H0 : Hp) (p : Addr) (cs : List (Str × Int)) (ls : List Str) (hs : List (Str × Int)) (rows : List PyData), vs = [.ref p] ∧ Pg K H0 H p C cs ls hs rows ∧ ∀ H', Same H H' → Q (.str (textW cs ls hs rows)) H'
theorem cell_wl {cs : List (Str × Int)} {l u : Int} (h : Sz cs l u) (hl : -1000 ≤ l) (hu : u ≤ 1000) {kind : Str} (hk : kind.length ≤ 10) : ∀ zs : List Str, (∀ z ∈ zs, z ∈ cs.map (·.1)) → wl (zs.flatMap (cellW kind cs)) ≤ 40 * zs.length
  | [], _ => Nat.zero_le _
  | z :: zs, hz => by
    have h1 := cell_wl h hl hu hk zs fun y hy => hz y (List.mem_cons_of_mem _ hy)
    have hm := hz z (List.mem_cons_self ..)
    have h2 := int_len (sz_small h hl hu hm)
    have h3 : z.length ≤ 6 := by
      obtain ⟨q, hq, rfl⟩ := List.mem_map.mp hm
      exact (name_len (h.names q hq)).2
    rw [List.flatMap_cons, wl_app, List.length_cons]
    have e : wl (cellW kind cs z) = kind.length + 1 + (z.length + 1 + ((intS (lookI cs z)).length + 1 + 0)) := rfl
    omega
theorem lock_wl : ∀ ls : List Str, (∀ z ∈ ls, isNameL z = true) → wl (ls.flatMap lockW) ≤ 20 * ls.length
  | [], _ => Nat.zero_le _
  | z :: zs, hz => by
    have h1 := lock_wl zs fun y hy => hz y (List.mem_cons_of_mem _ hy)
    have h3 := (name_len (hz z (List.mem_cons_self ..))).2
    rw [List.flatMap_cons, wl_app, List.length_cons]
    have e : wl (lockW z) = 5 + (z.length + 1 + 0) := rfl
    omega
theorem head_wl {cs : List (Str × Int)} {ls : List Str} {hs : List (Str × Int)} (h1 : Sz cs (-99) 99) (h2 : Sz hs 1 4) (h3 : ls.length ≤ 4) (h4 : ∀ z ∈ ls, isNameL z = true) : wl (headW cs ls hs) ≤ 500 := by
  unfold headW
  rw [wl_app, wl_app]
  have a := cell_wl h1 (by decide) (by decide) (kind := "cell") (by decide) (srt (cs.map (·.1))) fun z h => srt_mem h
  have b := lock_wl ls h4
  have c := cell_wl h2 (by decide) (by decide) (kind := "channel") (by decide) (srt (hs.map (·.1))) fun z h => srt_mem h
  rw [srt_len, List.length_map] at a c
  have := h1.few
  have := h2.few
  omega
theorem Pg.wl {H0 H : Hp} {p C : Addr} {cs : List (Str × Int)} {ls : List Str} {hs : List (Str × Int)} {rows : List PyData} (g : Pg K H0 H p C cs ls hs rows) : wl (headW cs ls hs ++ bwD 12 rows) ≤ 30500 := by
  rw [wl_app]
  have h1 := head_wl g.cells g.lanes g.lfew g.lnm
  have h2 := wl_bw 12 rows g.rok (Nat.lt_of_le_of_lt g.wt (by decide))
  have h3 := g.wt
  omega
theorem ok_pstr (T : Tp K w mg) : FnOk P w K mg base CX0 50 T.f_pstr T.fd_pstr ["self"] (spStr K T.C_Program) := by
  refine T.D_pstr.ok sc_pstr (fun vs H Q E h => ?_) (fun cdv A outer s H vs Q E hr h => ?_)
  · obtain ⟨H0, p, cs, ls, hs, rows, rfl, _⟩ := h
    rfl
  · obtain ⟨H0, p, cs, ls, hs, rows, rfl, G, q⟩ := h
    have gw := G.wl
    obtain ⟨⟨dx, fs, b, f, l, wd, hp, e1, e2, e3, e4, hb, hf, hl, hw, _⟩, zc, zh, lf, ln, hok, h6, _⟩ := G
    refine ⟨_, (pss_one (ps_ret (pe_join pe_str (pe_op op_cat (pcall T.D_hwords (ok_hwords T) (hr.mono (by omega)) (by rfl) (pa_cons (pe_fld (pv 0) rfl) (pa_cons (pe_fld (pv 0) rfl) (pa_cons (pe_fld (pv 0) rfl) pa_nil)))) (pcall T.D_bwords (ok_bwords T 12) (hr.mono (by omega)) (by rfl) (pa_cons (pe_fld (pv 0) rfl) pa_nil)))))), ?_⟩
    refine ⟨⟨_, rfl⟩, _, rfl, p, _, dx, fs, .ref f, rfl, hp, T.cl_Program, T.na_Program_first, e2, _, rfl, p, _, dx, fs, .ref l, rfl, hp, T.cl_Program, T.na_Program_bolts, e3, _, rfl, p, _, dx, fs, .ref wd, rfl, hp, T.cl_Program, T.na_Program_widths, e4, f, l, wd, cs, ls, hs, rfl, hf, hl, hw, zc, zh, lf, fun p1 H1 n1 s1 h1 => ?_⟩
    refine ⟨_, rfl, p, _, dx, fs, b, rfl, s1 _ _ hp, T.cl_Program, T.na_Program_tree, e1, b, rows, rfl, s1.dp hb, hok, Nat.le_trans h6 (by decide), fun p2 H2 n2 s2 h2 => ?_⟩
    have gl := wl_len (headW cs ls hs ++ bwD 12 rows)
    rw [List.length_append] at gl
    refine catS (s2 _ _ h1) h2 (by omega) fun p3 H3 n3 s3 h3 => ?_
    refine ⟨" ", p3, headW cs ls hs ++ bwD 12 rows, rfl, rfl, .inl (sl h3), ?_, q H3 ((s1.trans s2).trans s3)⟩
    show _ + _ * 1 ≤ 16777216
    rw [join_len]
    omega
def spText (K : PySem.W.Frag) (C : Addr) : Sp := spStr K C
theorem ok_ptext (T : Tp K w mg) : FnOk P w K mg base CX0 53 T.f_ptext T.fd_ptext ["program"] (spStr K T.C_Program) := by
  refine T.D_ptext.F.ok sc_ptext (fun vs H Q E h => ?_) (fun cdv A outer s H vs Q E hr h => ?_)
  · obtain ⟨H0, p, cs, ls, hs, rows, rfl, _⟩ := h
    rfl
  · obtain ⟨H0, p, cs, ls, hs, rows, rfl, G, q⟩ := h
    obtain ⟨dx, fs, b, f, l, wd, hp, _⟩ := G.ex
    refine ⟨_, (pss_one (ps_ret (pe_callTy (HJ.call_strO T.m_pstr (ok_pstr T) (hr.mono (by omega)) T.b_pstr pass0) (by rfl) T.str (by decide +kernel) (pa_cons (pv 0) pa_nil)))), ?_⟩
    exact ⟨_, rfl, p, dx, fs, rfl, hp, H0, p, cs, ls, hs, rows, rfl, G, fun H' s' => ⟨_, rfl, q H' s'⟩⟩
end
end TP
namespace TP
open PySem PySem.Spec PyProof.Rows L2 HX HB HG HU HH HD HS HV HQ HK HN HJ TL
/-! ### the signs of a text -/
theorem okS_iff {z : Str} : okS z = true ↔ ∀ c ∈ z.cps.toList, c < 0x110000 := by
  show z.cps.all (fun c => decide (c < 0x110000)) = true ↔ _
  rw [← Array.all_toList, List.all_eq_true]
  exact ⟨fun h c hc => of_decide_eq_true (h c hc), fun h c hc => decide_eq_true (h c hc)⟩
theorem okS_int (i : Int) : okS (intS i) = true := by
  rw [okS_iff]
  intro c hc
  have e : (intS i).cps.toList = (toString i).toList.map Char.toNat := signs_ofString _
  rw [e] at hc
  obtain ⟨ch, _, rfl⟩ := List.mem_map.mp hc
  have := ch.valid
  rcases this with h | ⟨_, h⟩
  · exact Nat.lt_trans h (by decide)
  · exact h
theorem okS_app {x y : Str} (hx : okS x = true) (hy : okS y = true) : okS (x ++ y) = true := by
  rw [okS_iff] at hx hy ⊢
  intro c hc
  rw [show (x ++ y).cps.toList = x.cps.toList ++ y.cps.toList from tl_append x y] at hc
  rcases List.mem_append.mp hc with hc | hc
  · exact hx c hc
  · exact hy c hc
theorem okS_join {s : Str} (hs : okS s = true) : ∀ zs : List Str, (∀ z ∈ zs, okS z = true) → okS (Str.join s zs) = true
  | [], _ => by show okS Str.empty = true; decide +kernel
  | [z], h => h z (List.mem_cons_self ..)
  | z :: y :: r, h => by
    show okS (z ++ s ++ Str.join s (y :: r)) = true
    exact okS_app (okS_app (h z (List.mem_cons_self ..)) hs) (okS_join hs (y :: r) fun x hx => h x (List.mem_cons_of_mem _ hx))
theorem cw_okS : ∀ (n : Nat) (d : PyData), cOk n d = true → ∀ z ∈ cwD d, okS z = true := by
  intro n
  induction n with
  | zero =>
    intro d h z hz
    rcases cOk_inv h with ⟨i, rfl⟩ | ⟨y, rfl⟩ | ⟨m, k, a, b, e, _⟩
    · rw [List.mem_singleton.mp hz]; exact okS_int i
    · rw [List.mem_singleton.mp hz]; exact h
    · exact absurd e (by omega)
  | succ n ih =>
    intro d h z hz
    rcases cOk_inv h with ⟨i, rfl⟩ | ⟨y, rfl⟩ | ⟨m, k, a, b, e, rfl, ca, cb⟩
    · rw [List.mem_singleton.mp hz]; exact okS_int i
    · rw [List.mem_singleton.mp hz]; exact h
    · cases e
      have hk : (okS k && (cOk n a && cOk n b)) = true := h
      simp only [Bool.and_eq_true] at hk
      have hz : z ∈ (([("(" : Str), k] ++ cwD a) ++ cwD b) ++ [(")" : Str)] := hz
      simp only [List.mem_append, List.mem_cons, List.not_mem_nil, or_false] at hz
      rcases hz with (((rfl | rfl) | hz) | hz) | rfl
      · decide +kernel
      · exact hk.1
      · exact ih a ca z hz
      · exact ih b cb z hz
      · decide +kernel
theorem word_okS {z : Str} {ks : List Str} (h : kindsOf z = some ks) : okS z = true := by
  have : ∀ q ∈ partsL, okS q.1 = true := by decide +kernel
  exact this _ (kindsOf_mem h)
theorem bw_okS : ∀ (n : Nat) (rows : List PyData), rowsOk n rows → ∀ z ∈ bwD n rows, okS z = true
  | 0, rows, h, z, hz => by cases hz
  | n + 1, rows, h, z, hz => by
    obtain ⟨r, hr, hz⟩ := List.mem_flatMap.mp hz
    obtain ⟨w, ks, ds, er, hk, hl, hb, hc⟩ := h r hr
    rw [er, rowW_eq hk] at hz
    rcases List.mem_cons.mp hz with rfl | hz
    · exact word_okS hk
    · obtain ⟨q, hq, hz⟩ := List.mem_flatMap.mp hz
      unfold partW at hz
      split at hz
      · rename_i hbd
        obtain ⟨bs, eb, hp⟩ := hb q hq hbd
        rw [eb] at hz
        simp only [List.mem_append, List.mem_cons, List.not_mem_nil, or_false] at hz
        rcases hz with (rfl | hz) | rfl
        · decide +kernel
        · exact bw_okS n bs hp z hz
        · decide +kernel
      · rename_i hbd
        exact cw_okS 22 q.2 (hc q hq hbd) z hz
theorem name_okS {z : Str} (h : isNameL z = true) : okS z = true := (Low.of h).lay
theorem head_okS {cs : List (Str × Int)} {ls : List Str} {hs : List (Str × Int)} (h1 : Sz cs (-99) 99) (h2 : Sz hs 1 4) (h4 : ∀ z ∈ ls, isNameL z = true) : ∀ z ∈ headW cs ls hs, okS z = true := by
  intro z hz
  have cell : ∀ (kind : Str) (kvs : List (Str × Int)) (l u : Int), Sz kvs l u → okS kind = true → z ∈ (srt (kvs.map (·.1))).flatMap (cellW kind kvs) → okS z = true := fun kind kvs l u h hk hz => by
    obtain ⟨y, hy, hz⟩ := List.mem_flatMap.mp hz
    obtain ⟨q, hq, rfl⟩ := List.mem_map.mp (srt_mem hy)
    have hz : z ∈ [kind, q.1, intS (lookI kvs q.1)] := hz
    simp only [List.mem_cons, List.not_mem_nil, or_false] at hz
    rcases hz with rfl | rfl | rfl
    · exact hk
    · exact name_okS (h.names q hq)
    · exact okS_int _
  unfold headW at hz
  rcases List.mem_append.mp hz with hz | hz
  · rcases List.mem_append.mp hz with hz | hz
    · exact cell "cell" cs _ _ h1 (by decide +kernel) hz
    · obtain ⟨y, hy, hz⟩ := List.mem_flatMap.mp hz
      have hz : z ∈ [("lock" : Str), y] := hz
      simp only [List.mem_cons, List.not_mem_nil, or_false] at hz
      rcases hz with rfl | rfl
      · decide +kernel
      · exact name_okS (h4 _ hy)
  · exact cell "channel" hs _ _ h2 (by decide +kernel) hz
theorem Pg.okS {K : PySem.W.Frag} {H0 H : Hp} {p C : Addr} {cs : List (Str × Int)} {ls : List Str} {hs : List (Str × Int)} {rows : List PyData} (g : Pg K H0 H p C cs ls hs rows) : okS (textW cs ls hs rows) = true := by
  unfold textW
  rw [join_eq]
  refine okS_join (by decide +kernel) _ fun z hz => ?_
  rcases List.mem_append.mp hz with hz | hz
  · exact head_okS g.cells g.lanes g.lnm z hz
  · exact bw_okS 12 rows g.rok z hz
end TP
namespace TP
open PySem PySem.Spec PyProof.Rows L2 HX HB HG HU HH HD HS HV HQ HK HN HJ TL
/-! ### the words of a text -/
def isSep (c : Nat) : Bool := decide (c = 10 ∨ c = 32)
/-- words, a word begun ahead -/
def scn : List Nat → List Nat → List (List Nat)
  | acc, [] => if acc = [] then [] else [acc]
  | acc, c :: r => if isSep c = true then (if acc = [] then scn [] r else acc :: scn [] r) else scn (acc ++ [c]) r
def ne0 (l : List Nat) : Bool := decide (l ≠ [])
theorem pre_one (s c : Nat) (r : List Nat) : pre [s] (c :: r) = decide (c = s) := by
  show ([c] == [s]) = _
  by_cases h : c = s
  · subst h; simp
  · rw [decide_eq_false h]; simp [h]
theorem spl_one (s : Nat) (acc : List Nat) (c : Nat) (r : List Nat) : spl [s] 0 acc (c :: r) = if c = s then acc :: spl [s] 0 [] r else spl [s] 0 (acc ++ [c]) r := by
  by_cases h : c = s
  · rw [spl_hit (by rw [pre_one, decide_eq_true h]), if_pos h]
    rfl
  · rw [spl_miss (by rw [pre_one, decide_eq_false h]), if_neg h]
theorem scn_spl : ∀ (a p acc : List Nat) (fr : List (List Nat)), (∀ x, (spl [32] 0 [] (p ++ x)).filter ne0 = fr ++ (spl [32] 0 acc x).filter ne0) → ((spl [10] 0 p a).flatMap fun row => (spl [32] 0 [] row).filter ne0) = fr ++ scn acc a
  | [], p, acc, fr, h => by
    rw [spl_nil, List.flatMap_cons, List.flatMap_nil, List.append_nil]
    have := h []
    rw [List.append_nil, spl_nil] at this
    rw [this]
    congr 1
    unfold scn
    by_cases e : acc = []
    · subst e; rfl
    · rw [if_neg e, List.filter_cons_of_pos (by unfold ne0; exact decide_eq_true e)]
      rfl
  | c :: r, p, acc, fr, h => by
    rw [spl_one]
    unfold scn
    by_cases h10 : c = 10
    · rw [if_pos h10, if_pos (by unfold isSep; exact decide_eq_true (.inl h10)), List.flatMap_cons]
      have ih := scn_spl r [] [] [] (fun x => by rw [List.nil_append]; rfl)
      rw [List.nil_append] at ih
      rw [ih]
      have := h []
      rw [List.append_nil, spl_nil] at this
      rw [this, List.append_assoc]
      congr 1
      by_cases e : acc = []
      · subst e; rfl
      · rw [if_neg e, List.filter_cons_of_pos (by unfold ne0; exact decide_eq_true e)]
        rfl
    · rw [if_neg h10]
      by_cases h32 : c = 32
      · rw [if_pos (by unfold isSep; exact decide_eq_true (.inr h32))]
        by_cases e : acc = []
        · rw [if_pos e]
          refine scn_spl r (p ++ [c]) [] fr fun x => ?_
          rw [List.append_assoc, h]
          subst e
          show _ = _
          rw [List.singleton_append, spl_one, if_pos h32]
          rfl
        · rw [if_neg e]
          have ih := scn_spl r (p ++ [c]) [] (fr ++ [acc]) fun x => by
            rw [List.append_assoc, h, List.singleton_append, spl_one, if_pos h32, List.append_assoc]
            congr 1
            rw [List.filter_cons_of_pos (by unfold ne0; exact decide_eq_true e)]
            rfl
          rw [ih, List.append_assoc]
          rfl
      · rw [if_neg (by unfold isSep; intro z; exact (of_decide_eq_true z).elim h10 h32)]
        refine scn_spl r (p ++ [c]) (acc ++ [c]) fr fun x => ?_
        rw [List.append_assoc, h, List.singleton_append, spl_one, if_neg h32]
/-- the words of a text -/
def wordsOf (t : Str) : List Str := (scn [] t.cps.toList).map SX.S
theorem S_map_tl : ∀ zs : List Str, (zs.map tl).map SX.S = zs
  | [] => rfl
  | z :: zs => by
    rw [List.map_cons, List.map_cons, S_map_tl zs]
/-- what a piece of a text adds -/
def Jn (t : List Nat) (ws : List Str) : Prop := ∀ x, scn [] (t ++ x) = ws.map tl ++ scn [] x
structure Wd (z : Str) : Prop where
  ne : tl z ≠ []
  pl : ∀ c ∈ tl z, isSep c = false
theorem scn_word : ∀ (w acc x : List Nat), (∀ c ∈ w, isSep c = false) → scn acc (w ++ x) = scn (acc ++ w) x
  | [], acc, x, _ => by rw [List.nil_append, List.append_nil]
  | c :: w, acc, x, h => by
    have hc := h c (List.mem_cons_self ..)
    rw [List.cons_append]
    show (if isSep c = true then _ else scn (acc ++ [c]) (w ++ x)) = _
    rw [if_neg (by rw [hc]; exact Bool.false_ne_true), scn_word w (acc ++ [c]) x fun d hd => h d (List.mem_cons_of_mem _ hd), List.append_assoc]
    rfl
theorem scn_seps : ∀ (s x : List Nat), (∀ c ∈ s, isSep c = true) → scn [] (s ++ x) = scn [] x
  | [], x, _ => by rw [List.nil_append]
  | c :: s, x, h => by
    have hc := h c (List.mem_cons_self ..)
    rw [List.cons_append]
    show (if isSep c = true then (if ([] : List Nat) = [] then scn [] (s ++ x) else [] :: scn [] (s ++ x)) else _) = _
    rw [if_pos hc, if_pos rfl, scn_seps s x fun d hd => h d (List.mem_cons_of_mem _ hd)]
theorem Jn.nil : Jn [] [] := fun x => rfl
theorem Jn.seps {s : List Nat} (h : ∀ c ∈ s, isSep c = true) : Jn s [] := fun x => scn_seps s x h
theorem Jn.word {t : List Nat} {ws : List Str} {z : Str} {s : List Nat} (j : Jn t ws) (w : Wd z) (hs : s ≠ []) (h : ∀ c ∈ s, isSep c = true) : Jn (t ++ tl z ++ s) (ws ++ [z]) := fun x => by
  rw [List.append_assoc, List.append_assoc, j, scn_word _ _ _ w.pl, List.nil_append, List.map_append, List.append_assoc]
  congr 1
  obtain ⟨c, s, rfl⟩ : ∃ c s', s = c :: s' := by
    cases s with
    | nil => exact absurd rfl hs
    | cons c s => exact ⟨c, s, rfl⟩
  rw [List.cons_append]
  show (if isSep c = true then (if tl z = [] then scn [] (s ++ x) else tl z :: scn [] (s ++ x)) else _) = _
  rw [if_pos (h c (List.mem_cons_self ..)), if_neg w.ne, scn_seps s x fun d hd => h d (List.mem_cons_of_mem _ hd)]
  rfl
theorem Jn.words {t : Str} {ws : List Str} (j : Jn (tl t) ws) : wordsOf t = ws := by
  have := j []
  rw [List.append_nil] at this
  unfold wordsOf
  rw [show t.cps.toList = tl t from rfl, this]
  show (ws.map tl ++ []).map SX.S = ws
  rw [List.append_nil, S_map_tl]
theorem scn_last {w : List Nat} (hw : w ≠ []) (h : ∀ c ∈ w, isSep c = false) : scn [] w = [w] := by
  have := scn_word w [] [] h
  rw [List.append_nil, List.nil_append] at this
  rw [this]
  show (if w = [] then [] else [w]) = [w]
  rw [if_neg hw]
theorem scn_join : ∀ (ws : List Str), (∀ z ∈ ws, Wd z) → scn [] (joinL [32] (ws.map tl)) = ws.map tl
  | [], _ => rfl
  | [z], h => scn_last (h z (List.mem_cons_self ..)).ne (h z (List.mem_cons_self ..)).pl
  | z :: y :: ws, h => by
    have w := h z (List.mem_cons_self ..)
    have ih := scn_join (y :: ws) fun x hx => h x (List.mem_cons_of_mem _ hx)
    have e : joinL [32] ((z :: y :: ws).map tl) = tl z ++ ([32] ++ joinL [32] ((y :: ws).map tl)) := by
      rfl
    rw [e, scn_word _ _ _ w.pl, List.nil_append]
    show (if isSep 32 = true then (if tl z = [] then _ else tl z :: scn [] ([] ++ joinL [32] ((y :: ws).map tl))) else _) = _
    rw [if_pos (by decide), if_neg w.ne, List.nil_append, ih]
    rfl
theorem words_join {ws : List Str} (h : ∀ z ∈ ws, Wd z) : wordsOf (Txt.join " " ws) = ws := by
  unfold wordsOf
  have e : (Txt.join " " ws).cps.toList = joinL [32] (ws.map tl) := by
    rw [join_eq]
    exact tl_join " " ws
  rw [e, scn_join ws h, S_map_tl]
/-! ### which words are words -/
theorem Wd.name {z : Str} (h : isNameL z = true) : Wd z := by
  unfold isNameL at h
  simp only [Bool.and_eq_true, decide_eq_true_eq, List.all_eq_true] at h
  refine ⟨fun e => ?_, fun c hc => ?_⟩
  · have e2 : z.cps.toList = [] := e
    have : z.length = z.cps.toList.length := by simp [Str.length]
    rw [e2] at this
    have h1 := h.1.1
    rw [this] at h1
    exact absurd h1 (by decide)
  · have := h.2 c hc
    unfold isLow at this
    simp only [Bool.and_eq_true, decide_eq_true_eq] at this
    unfold isSep
    exact decide_eq_false (by omega)
def isDig (c : Nat) : Bool := decide (48 ≤ c ∧ c ≤ 57)
theorem int_codes (i : Int) : tl (intS i) = if 0 ≤ i then numL i.toNat else 45 :: numL (-i).toNat := by
  unfold intS
  split
  · rename_i h
    obtain ⟨n, rfl⟩ : ∃ n : Nat, i = n := ⟨i.toNat, by omega⟩
    exact tl_num n
  · rename_i h
    obtain ⟨n, rfl⟩ : ∃ n : Nat, i = -((n : Nat) : Int) := ⟨(-i).toNat, by omega⟩
    have hn : 0 < n := by omega
    have e1 := signs_ofString (toString (-((n : Nat) : Int)))
    have e2 := tl_num n
    rw [tl_ofString] at e2
    obtain ⟨m, rfl⟩ : ∃ m, n = m + 1 := ⟨n - 1, by omega⟩
    have e3 : toString (-((m + 1 : Nat) : Int)) = "-" ++ toString ((m + 1 : Nat) : Int) := rfl
    show tl (Str.ofString (toString (-((m + 1 : Nat) : Int)))) = _
    rw [tl_ofString, e3, String.toList_append, List.map_append, e2, show (-(-((m + 1 : Nat) : Int))).toNat = m + 1 by omega]
    rfl
theorem numL_dig {n c : Nat} (h : c ∈ numL n) : 48 ≤ c ∧ c ≤ 57 := numL_digits n c h
theorem Wd.int (i : Int) : Wd (intS i) := by
  refine ⟨?_, fun c hc => ?_⟩
  · rw [int_codes]
    split
    · exact numL_ne _
    · exact List.cons_ne_nil _ _
  · rw [int_codes] at hc
    unfold isSep
    refine decide_eq_false ?_
    split at hc
    · have := numL_dig hc; omega
    · rcases List.mem_cons.mp hc with rfl | hc
      · omega
      · have := numL_dig hc; omega
/-! ### figures -/
def figsOf (l : List Nat) : List Nat := if l.take 1 = [45] then l.drop 1 else l
def isFigL (l : List Nat) : Bool := decide (figsOf l ≠ []) && ((figsOf l).all isDig && (decide (l = [48]) || decide ((figsOf l).head? ≠ some 48)))
def isFig (z : Str) : Bool := isFigL (tl z)
theorem numL_head : ∀ n : Nat, n ≠ 0 → (numL n).head? ≠ some 48
  | n, hn => by
    by_cases h : n < 10
    · rw [numL_lt h]
      simp
      omega
    · rw [numL_step (by omega)]
      have ih := numL_head (n / 10) (by omega)
      cases e : numL (n / 10) with
      | nil => exact absurd e (numL_ne _)
      | cons c r =>
        rw [e] at ih
        exact ih
  termination_by n => n
theorem figs_num (n : Nat) : figsOf (numL n) = numL n := by
  unfold figsOf
  rw [if_neg]
  intro e
  have : 45 ∈ numL n := List.mem_of_mem_take (e ▸ List.mem_singleton.mpr rfl : 45 ∈ (numL n).take 1)
  have := numL_dig this
  omega
theorem all_dig (n : Nat) : (numL n).all isDig = true := List.all_eq_true.mpr fun c hc => decide_eq_true (numL_dig hc)
theorem isFig_int (i : Int) : isFig (intS i) = true := by
  unfold isFig
  rw [int_codes]
  split
  · unfold isFigL
    rw [figs_num, all_dig, decide_eq_true (numL_ne _)]
    by_cases h : i.toNat = 0
    · rw [h, show numL 0 = [48] from numL_lt (by decide)]
      rfl
    · rw [decide_eq_true (numL_head _ h), Bool.or_true]
      rfl
  · rename_i hi
    unfold isFigL
    have e : figsOf (45 :: numL (-i).toNat) = numL (-i).toNat := by
      unfold figsOf
      rw [if_pos (by simp)]
      simp
    rw [e, all_dig, decide_eq_true (numL_ne _), decide_eq_true (numL_head _ (by omega)), Bool.or_true]
    rfl
theorem isFig_not {z : Str} (h : ∃ c r, tl z = c :: r ∧ c ≠ 45 ∧ ¬ (48 ≤ c ∧ c ≤ 57)) : isFig z = false := by
  obtain ⟨c, r, e, h1, h2⟩ := h
  unfold isFig isFigL
  have ef : figsOf (tl z) = c :: r := by
    rw [e]
    unfold figsOf
    rw [if_neg (by simp [h1])]
  rw [ef, List.all_cons, show isDig c = false from decide_eq_false h2, Bool.false_and, Bool.false_and, Bool.and_false]
theorem isFig_name {z : Str} (h : isNameL z = true) : isFig z = false := by
  have w := Wd.name h
  unfold isNameL at h
  simp only [Bool.and_eq_true, decide_eq_true_eq, List.all_eq_true] at h
  refine isFig_not ?_
  cases e : tl z with
  | nil => exact absurd e w.ne
  | cons c r =>
    have := h.2 c (by show c ∈ tl z; rw [e]; exact List.mem_cons_self ..)
    unfold isLow at this
    simp only [Bool.and_eq_true, decide_eq_true_eq] at this
    exact ⟨c, r, rfl, by omega, by omega⟩
theorem intText_int {i : Int} (h : i.natAbs ≤ 10 ^ 13) : intText? (intS i) = some i := by
  have hl := int_len h
  have hlen : (intS i).length ≤ 4300 := by omega
  have ec := int_codes i
  split at ec
  · have e := intText_digits (x := intS i) (by rw [show (intS i).cps.toList = numL i.toNat from ec]; exact numL_digits _) (by rw [show (intS i).cps.toList = numL i.toNat from ec]; exact numL_ne _) hlen
    rw [show (intS i).cps.toList = numL i.toNat from ec, numL_val] at e
    rw [e]
    congr 1
    omega
  · have e := intText_neg (x := intS i) (cs := numL (-i).toNat) ec (numL_digits _) (numL_ne _) hlen
    rw [numL_val] at e
    rw [e]
    congr 1
    omega
end TP
namespace TP
open PySem PySem.Spec PyProof.Rows L2 HX HB HG HU HH HD HS HV HQ HK HN HJ TL HM
theorem strs_shaped2 {zs : List Str} (h : ∀ z ∈ zs, PyData.canLay0 (.str z) = true) : SeqAt.shaped (.list (zs.map .str)) = true := by
  have k : ∀ {zs : List Str}, (∀ z ∈ zs, PyData.canLay0 (.str z) = true) → PyData.canLayAll0 (zs.map .str) = true ∧ PyData.depthAll (zs.map .str) = 0 := by
    intro zs
    induction zs with
    | nil => intro _; exact ⟨rfl, rfl⟩
    | cons z zs ih =>
      intro h
      obtain ⟨h1, h2⟩ := ih fun y hy => h y (List.mem_cons_of_mem _ hy)
      refine ⟨by simp only [List.map_cons, PyData.canLayAll0, h z (List.mem_cons_self ..), h1, Bool.and_self], ?_⟩
      show max 0 (PyData.depthAll (zs.map .str)) = 0
      rw [h2]
      rfl
  obtain ⟨h1, h2⟩ := k h
  show (PyData.canLay0 (.list (zs.map .str)) && decide (PyData.depth (.list (zs.map .str)) ≤ 64)) = true
  have e1 : PyData.canLay0 (.list (zs.map .str)) = true := h1
  have e2 : PyData.depth (.list (zs.map .str)) = 1 := by show PyData.depthAll _ + 1 = 1; rw [h2]
  rw [e1, e2]
  rfl
/-! ### a reader -/
structure Rd (H : Hp) (p C : Addr) (ws : List Str) (i : Nat) : Prop where
  ex : ∃ dx l, H p = some (.ins C dx [("left", .ref l), ("at", .int (i : Int))]) ∧ H l = some (.lst (ws.map V.str))
theorem Rd.same {H H' : Hp} {p C : Addr} {ws : List Str} {i : Nat} (r : Rd H p C ws i) (s : Same H H') : Rd H' p C ws i := by
  obtain ⟨dx, l, h1, h2⟩ := r.ex
  exact ⟨dx, l, s _ _ h1, s _ _ h2⟩
theorem Rd.some {H : Hp} {p C : Addr} {ws : List Str} {i : Nat} (r : Rd H p C ws i) : ∃ o, H p = some o := let ⟨_, _, h, _⟩ := r.ex; ⟨_, h⟩
theorem V1.refl {p : Addr} {H : Hp} : V1 p H H := V1.of (Same.refl H)
theorem V1.tr {p : Addr} {H H' H'' : Hp} (a : V1 p H H') (b : V1 p H' H'') : V1 p H H'' := fun x o h e => b x o (a x o h e) e
theorem V1.own {p : Addr} {H H' : Hp} (a : V1 p H H') {L : Addr} (n : H L = none) {o : HO} : V1 p H (upd H' L o) := fun x y h e => by
  rw [upd_ne (fun z => by subst z; rw [n] at h; cases h)]
  exact a x y h e
theorem V1.sqt {K : PySem.W.Frag} {p C dx : Addr} {fs : List (Str × V)} {H H' : Hp} (v : V1 p H H') (hp : H p = Option.some (.ins C dx fs)) {a : Addr} {xs : List V} (h : SqT K H a xs) : SqT K H' a xs :=
  sqt_kept (fun a o ha hi => v a o ha fun e => by subst e; rw [hp] at ha; cases ha; exact hi _ _ _ rfl) h
theorem V1.dp {K : PySem.W.Frag} {p C dx : Addr} {fs : List (Str × V)} {H H' : Hp} (v : V1 p H H') (hp : H p = Option.some (.ins C dx fs)) {x : V} {d : PyData} (t : tupD d = true) (h : Dp K H x d) : Dp K H' x d := dp_keep (fun _ _ h => v.sqt hp h) t h
/-- all but the reader stands, and the reader's list is the same -/
structure VR (p : Addr) (H H' : Hp) : Prop where
  v : V1 p H H'
  k : ∀ C dx l n, H p = Option.some (.ins C dx [("left", .ref l), ("at", n)]) → ∃ n', H' p = Option.some (.ins C dx [("left", .ref l), ("at", n')])
theorem VR.of {p : Addr} {H H' : Hp} (s : Same H H') : VR p H H' := ⟨V1.of s, fun _ _ _ n h => ⟨n, s _ _ h⟩⟩
theorem VR.refl {p : Addr} {H : Hp} : VR p H H := VR.of (Same.refl H)
theorem VR.tr {p : Addr} {H H' H'' : Hp} (a : VR p H H') (b : VR p H' H'') : VR p H H'' := ⟨a.v.tr b.v, fun C dx l n h => let ⟨n1, h1⟩ := a.k C dx l n h; b.k C dx l n1 h1⟩
theorem VR.trans {p : Addr} {H H' H'' : Hp} (a : VR p H H') (b : Same H' H'') : VR p H H'' := a.tr (VR.of b)
theorem VR.set {p C dx l : Addr} {n n' : V} {H : Hp} (h : H p = Option.some (.ins C dx [("left", .ref l), ("at", n)])) : VR p H (upd H p (.ins C dx [("left", .ref l), ("at", n')])) := ⟨V1.refl.set, fun C2 dx2 l2 n2 h2 => ⟨n', by rw [h] at h2; cases h2; exact upd_same⟩⟩
theorem VR.own {p : Addr} {H H' : Hp} (a : VR p H H') {L : Addr} (n : H L = none) {o : HO} : VR p H (upd H' L o) := ⟨a.v.own n, fun C dx l m h => let ⟨m', h'⟩ := a.k C dx l m h; ⟨m', by rw [upd_ne (fun z => by subst z; rw [h] at n; cases n)]; exact h'⟩⟩
theorem VR.sqt {K : PySem.W.Frag} {p C dx : Addr} {fs : List (Str × V)} {H H' : Hp} (v : VR p H H') (hp : H p = Option.some (.ins C dx fs)) {a : Addr} {xs : List V} (h : SqT K H a xs) : SqT K H' a xs := v.v.sqt hp h
theorem VR.dp {K : PySem.W.Frag} {p C dx : Addr} {fs : List (Str × V)} {H H' : Hp} (v : VR p H H') (hp : H p = Option.some (.ins C dx fs)) {x : V} {d : PyData} (t : tupD d = true) (h : Dp K H x d) : Dp K H' x d := v.v.dp hp t h
/-- the reader stands when an own list grows -/
theorem Rd.own {H H' : Hp} {p C : Addr} {ws ws0 : List Str} {i i0 : Nat} (r0 : Rd H p C ws0 i0) (v : VR p H H') (r : Rd H' p C ws i) {L : Addr} (n : H L = none) {o : HO} : Rd (upd H' L o) p C ws i := by
  obtain ⟨dx0, l0, h1, h2⟩ := r0.ex
  obtain ⟨dx, l, h3, h4⟩ := r.ex
  obtain ⟨n', h5⟩ := v.k _ _ _ _ h1
  rw [h5] at h3
  cases h3
  exact ⟨dx0, l0, by rw [upd_ne (fun z => by subst z; rw [h1] at n; cases n)]; exact h5, by rw [upd_ne (fun z => by subst z; rw [h2] at n; cases n)]; exact h4⟩
theorem fig_mem (c : Nat) : decide (c ∈ ("0123456789" : Str).cps.toList) = isDig c := by
  have e : ("0123456789" : Str).cps.toList = (List.range 10).map (· + 48) := by decide +kernel
  rw [e]
  unfold isDig
  refine decide_eq_decide.mpr ?_
  simp only [List.mem_map, List.mem_range]
  constructor
  · rintro ⟨j, hj, rfl⟩; omega
  · rintro ⟨h1, h2⟩; exact ⟨c - 48, by omega, by omega⟩
section
variable {P : Program} {w : World} {K : PySem.W.Frag} {mg : Str → Option Value} {base : Heap}
def spFig : Sp := fun vs H Q _ => ∃ z : Str, vs = [.str z] ∧ z.length ≤ 1000 ∧ okS z = true ∧ ∀ H', Same H H' → Q (.bl (isFig z)) H'
theorem ok_isfig (T : Tp K w mg) : FnOk P w K mg base CX0 1 T.f_isfig T.fd_isfig ["word"] spFig := by
  refine T.D_isfig.F.ok sc_isfig (fun vs H Q E h => ?_) (fun cdv A outer s H vs Q E hr h => ?_)
  · obtain ⟨z, rfl, _⟩ := h
    rfl
  · obtain ⟨z, rfl, hz, hk, q⟩ := h
    refine ⟨_, (Evl.pss_cut (ps_set (i := 1) sc_isfig.nd rfl (.inl rfl) (pe_ifExp (pt_cmpR op_eq (pe_slice sl_str (pv 0) po_none (po_some pe_int)) pe_str (nomark _)) (pe_slice sl_str (pv 0) (po_some pe_int) po_none) (pv 0)))
  (pss_cons (ps_if (PW.pt (pw_or (pt_cmpR op_eq (pv 1) pe_str (nomark _)) (pw_or1 (pt_cmpR (op_neD hr.units) (pe_lc (own := [("sign", 2)]) (g := gName 2) (by rfl) sc_isfig.nd (pi_str (pv 1)) (blkOk_by (own := [("sign", 2)]) (N := ["word", "figures", "sign"]) (sc := defScope s_isfig) (by decide +kernel)) (fun _ _ _ _ _ => (pg_name (i := 2) sc_isfig.nd rfl (.inl rfl))) (fun _ _ _ _ _ => (pts_one (pt_cmpR op_notIn_sign (pv 2) pe_str rfl))) (fun _ _ _ _ _ => (pv 2))) (pe_lst pa_nil) (nomark _)))))
  (pss_one (ps_ret pe_bl))
  pss_nil)
  (pss_one (ps_ret (pe_or (pe_cmpR op_eq (pv 0) pe_str (nomark _)) (pe_one (pe_cmpR op_ne (pe_ix ix_str (pv 1) pe_int (fun _ _ => rfl)) pe_str (nomark _)))))))), ?_⟩
    have hsz := Evl.sz_of (Nat.le_trans hz (by decide))
    have hcut : decide (V.str (cutS z none (some 1)) = V.str "-") = decide ((tl z).take 1 = [45]) := by
      have e : tl (cutS z none (some 1)) = (tl z).take 1 := by
        show ((z.cps.toList.drop (HT.sIx z.length 0 none)).take (HT.sIx z.length z.length (some 1) - HT.sIx z.length 0 none)) = z.cps.toList.take 1
        rw [HT.sIx_none, show HT.sIx z.length z.length (some 1) = min 1 z.length from HT.sIx_nat z.length z.length 1, List.drop_zero, Nat.sub_zero]
        have hl : z.cps.toList.length = z.length := by simp [Str.length]
        by_cases h : 1 ≤ z.length
        · rw [Nat.min_eq_left h]
        · have : z.cps.toList = [] := List.eq_nil_of_length_eq_zero (by omega)
          rw [this]; simp
      rw [es_str, ← e]
      exact decide_eq_decide.mpr ⟨fun h => by rw [h]; decide +kernel, fun h => ext_tl (by rw [h]; decide +kernel)⟩
    have hlen : z.length = (tl z).length := len_tl z
    refine ⟨fun σ H1 => ∃ f : Str, σ = [some (.str z), some (.str f), none] ∧ H1 = H ∧ tl f = figsOf (tl z), ?_, ?_⟩
    · refine ⟨_, rfl, 1, rfl, z, rfl, hsz, rfl, _, rfl, ?_⟩
      rw [hcut]
      refine ite2 (fun h1 => ?_) (fun h1 => ?_)
      · refine ⟨_, rfl, 1, rfl, z, rfl, hsz, _, rfl, rfl, ?_⟩
        unfold figsOf
        rw [if_pos (of_decide_eq_true h1)]
        have hl : z.cps.toList.length = z.length := by simp [Str.length]
        have h3 : (tl z).take 1 = [45] := of_decide_eq_true h1
        have h2 : 1 ≤ z.length := by
          rw [← hl]
          cases e : z.cps.toList with
          | nil => have : tl z = [] := e; rw [this] at h3; cases h3
          | cons c r => simp
        show ((z.cps.toList.drop (HT.sIx z.length 0 (some 1))).take (HT.sIx z.length z.length none - HT.sIx z.length 0 (some 1))) = z.cps.toList.drop 1
        rw [HT.sIx_none, show HT.sIx z.length 0 (some 1) = min 1 z.length from HT.sIx_nat z.length 0 1, Nat.min_eq_left h2]
        exact List.take_of_length_le (by rw [List.length_drop]; omega)
      · refine ⟨_, rfl, z, rfl, rfl, ?_⟩
        unfold figsOf
        rw [if_neg (fun h => h1 (decide_eq_true h))]
    rintro _ H1 ⟨f, rfl, rfl, ef⟩
    have lf : f.length ≤ 1000 := by
      rw [len_tl, ef]
      unfold figsOf
      split
      · rw [List.length_drop]; omega
      · omega
    have eq0 : decide (V.str f = V.str "") = decide (figsOf (tl z) = []) := by
      rw [es_str, ← ef]
      exact decide_eq_decide.mpr ⟨fun h => by rw [h]; decide +kernel, fun h => ext_tl (by rw [h]; decide +kernel)⟩
    have fin : isFig z = (!decide (figsOf (tl z) = []) && ((figsOf (tl z)).all isDig && (decide (tl z = [48]) || decide ((figsOf (tl z)).head? ≠ some 48)))) := by
      unfold isFig isFigL
      rw [decide_not]
    rw [fin] at q
    show tSeq _ _ _ _ H1
    refine ⟨_, rfl, rfl, _, rfl, ?_⟩
    rw [eq0]
    refine ite2 (fun h0 => ?_) (fun h0 => ?_)
    · rw [h0] at q
      exact q _ (Same.refl _)
    have h0' := Bool.eq_false_iff.mpr h0
    rw [h0'] at q
    refine ⟨_, rfl, f, rfl, fun D nD => ?_⟩
    refine lc_it walk_str (fun i H2 => Same H1 H2 ∧ H2 D = some (.lst (((f.cps.toList.take i).filter fun c => !isDig c).map fun c => V.str ⟨#[c]⟩))) ⟨same_upd nD, upd_same⟩ (fun _ _ _ _ => trivial) ?_ ?_
    · rintro i x H2 H3 hi ⟨sm, hD⟩ ⟨rfl, c, hc, rfl⟩
      have tk : (f.cps.toList.take (i + 1)).filter (fun c => !isDig c) = (f.cps.toList.take i).filter (fun c => !isDig c) ++ (if isDig c = true then [] else [c]) := by
        rw [List.take_add_one, List.filter_append, Array.getElem?_toList, hc]
        congr 1
        show [c].filter (fun c => !isDig c) = _
        cases e : isDig c <;> simp [e]
      refine ⟨rfl, _, rfl, c, _, rfl, rfl, _, rfl, ?_⟩
      rw [fig_mem, tk]
      cases ed : isDig c with
      | true => 
        refine iteF ⟨sm, ?_⟩
        rw [if_pos rfl, List.append_nil]
        exact hD
      | false =>
        refine iteT ⟨_, rfl, _, hD, ?_, sm.own nD, ?_⟩
        · rw [List.length_map]
          have h1 := List.length_filter_le (fun c => !isDig c) (f.cps.toList.take i)
          rw [List.length_take] at h1
          have : f.cps.toList.length = f.length := by simp [Str.length]
          exact sz6 (by omega)
        · rw [upd_same, if_neg Bool.false_ne_true, List.map_append]
          rfl
    · rintro H2 ⟨sm, hD⟩
      rw [show f.cps.size = f.cps.toList.length by simp, List.take_length] at hD
      refine ⟨Nat.zero_le _, fun e2 ne2 => ?_⟩
      have s2 := same_upd (o := .lst []) ne2
      have e1 : ((f.cps.toList.filter fun c => !isDig c).map fun c => V.str ⟨#[c]⟩) = ((f.cps.toList.filter fun c => !isDig c).map fun c => (⟨#[c]⟩ : Str)).map V.str := by rw [List.map_map]; rfl
      rw [e1] at hD
      refine ⟨.list (((f.cps.toList.filter fun c => !isDig c).map fun c => (⟨#[c]⟩ : Str)).map .str), .list [], .lst (sl (s2 _ _ hD)) (zs_dp _), .lst (sl upd_same) .nil, ?_, rfl, _, rfl, ?_⟩
      · refine strs_shaped2 fun z hz => ?_
        obtain ⟨c, hc, rfl⟩ := List.mem_map.mp hz
        have hc := (List.mem_filter.mp hc).1
        have hcz : c ∈ tl z := by
          have : c ∈ figsOf (tl z) := by rw [← ef]; exact hc
          unfold figsOf at this
          split at this
          · exact List.mem_of_mem_drop this
          · exact this
        show okS ⟨#[c]⟩ = true
        rw [okS_iff]
        intro x hx
        have hx : x ∈ [c] := hx
        rw [List.mem_singleton.mp hx]
        exact okS_iff.mp hk c hcz
      have ev : PyData.eqv (.list (((f.cps.toList.filter fun c => !isDig c).map fun c => (⟨#[c]⟩ : Str)).map .str)) (.list []) = (figsOf (tl z)).all isDig := by
        rw [← ef]
        show PyData.eqvAll _ [] = f.cps.toList.all isDig
        have : ∀ l : List Nat, PyData.eqvAll (((l.filter fun c => !isDig c).map fun c => (⟨#[c]⟩ : Str)).map PyData.str) [] = l.all isDig := by
          intro l
          induction l with
          | nil => rfl
          | cons c l ih =>
            rw [List.all_cons]
            cases e : isDig c with
            | true => rw [List.filter_cons_of_neg (by simp [e]), ih, Bool.true_and]
            | false => rw [List.filter_cons_of_pos (by simp [e])]; rfl
        exact this _
      have s02 := sm.trans s2
      generalize upd H2 e2 (.lst []) = H4 at s02 ⊢
      rw [ev]
      cases ea : (figsOf (tl z)).all isDig with
      | false =>
        rw [ea] at q
        exact iteT (q _ s02)
      | true =>
        rw [ea] at q
        refine iteF (nx_ ?_)
        have eq48 : decide (V.str z = V.str "0") = decide (tl z = [48]) := by
          rw [es_str]
          exact decide_eq_decide.mpr ⟨fun h => by rw [h]; decide +kernel, fun h => ext_tl (by rw [h]; decide +kernel)⟩
        refine ⟨_, rfl, rfl, _, rfl, ?_⟩
        rw [eq48]
        cases e48 : decide (tl z = [48]) with
        | true => 
          rw [e48] at q
          exact iteT (q _ s02)
        | false =>
          rw [e48] at q
          obtain ⟨c, r, ecr⟩ : ∃ c r, figsOf (tl z) = c :: r := by
            cases e : figsOf (tl z) with
            | nil => exact absurd (decide_eq_true e) h0
            | cons c r => exact ⟨c, r, rfl⟩
          refine iteF ⟨_, rfl, f, 0, c, rfl, rfl, Evl.sz_of (by omega), by show atI (tl f) ((0 : Nat) : Int) = _; refine atI_nat ?_; rw [ef, ecr]; rfl, rfl, ?_⟩
          have q := q _ s02
          rw [ecr] at q
          have e3 : decide (V.str ⟨#[c]⟩ = V.str "0") = decide (c = 48) := by
            rw [es_str]
            refine decide_eq_decide.mpr ⟨fun h => ?_, fun h => by rw [h]; decide +kernel⟩
            have := congrArg tl h
            have : [c] = [48] := this
            exact (List.cons.inj this).1
          show Q (V.bl (!decide (V.str ⟨#[c]⟩ = V.str "0"))) _
          rw [e3, ← decide_not]
          rw [show decide ((c :: r).head? ≠ some 48) = decide (¬ c = 48) by simp] at q
          exact q
def spPeek (C : Addr) : Sp := fun vs H Q _ => ∃ (p : Addr) (ws : List Str) (i : Nat), vs = [.ref p] ∧ Rd H p C ws i ∧ ws.length ≤ 10 ^ 6 ∧ Q (.str (ws.getD i "")) H
theorem ok_peek (T : Tp K w mg) : FnOk P w K mg base CX0 1 T.f_peek T.fd_peek ["self"] (spPeek T.C_Reader) := by
  refine T.D_peek.ok sc_peek (fun vs H Q E h => ?_) (fun cdv A outer s H vs Q E hr h => ?_)
  · obtain ⟨p, ws, i, rfl, _⟩ := h
    rfl
  · obtain ⟨p, ws, i, rfl, R, hw, q⟩ := h
    obtain ⟨dx, l, hp, hl⟩ := R.ex
    refine ⟨_, (pss_one (ps_ret (pe_ifExp (pt_cmpR op_lt (pe_fld (pv 0) rfl) (pe_callB call_len_seq (by rfl) T.len PySem.boot_len (pa_cons (pe_fld (pv 0) rfl) pa_nil)) (nomark _)) (pe_ix ix_list (pe_fld (pv 0) rfl) (pe_fld (pv 0) rfl) (fun _ _ => rfl)) pe_str))), ?_⟩
    have h6 : (10 : Nat) ^ 6 = 1000000 := by decide
    refine ⟨_, rfl, p, _, dx, _, _, rfl, hp, T.cl_Reader, T.na_Reader_at, rfl, _, rfl, p, _, dx, _, _, rfl, hp, T.cl_Reader, T.na_Reader_left, rfl, l, _, rfl, .inl (sl hl), _, _, rfl, rfl, _, rfl, ?_⟩
    refine ite2 (fun h1 => ?_) (fun h1 => ?_)
    · have h1 := of_decide_eq_true h1
      rw [List.length_map] at h1
      have h1 : i < ws.length := by omega
      refine ⟨_, rfl, p, _, dx, _, _, rfl, hp, T.cl_Reader, T.na_Reader_left, rfl, _, rfl, p, _, dx, _, _, rfl, hp, T.cl_Reader, T.na_Reader_at, rfl, l, _, _, .str ws[i], rfl, rfl, sl hl, atI_nat (by rw [List.getElem?_map, List.getElem?_eq_getElem h1]; rfl), ?_⟩
      rw [List.getD_eq_getElem?_getD, List.getElem?_eq_getElem h1] at q
      exact q
    · have h1 : ¬ i < ws.length := fun h => h1 (decide_eq_true (by rw [List.length_map]; omega))
      rw [List.getD_eq_getElem?_getD, List.getElem?_eq_none (by omega)] at q
      exact q
def spTif (C : Addr) : Sp := fun vs H Q _ => ∃ (p : Addr) (ws : List Str) (i : Nat), vs = [.ref p, .bl true] ∧ Rd H p C ws i ∧ ws.length ≤ 10 ^ 6 ∧ i ≤ 10 ^ 6 ∧ ∀ H', VR p H H' → Rd H' p C ws (i + 1) → Q (.str (ws.getD i "")) H'
theorem ok_takeif (T : Tp K w mg) : FnOk P w K mg base CX0 2 T.f_takeif T.fd_takeif ["self", "good"] (spTif T.C_Reader) := by
  refine T.D_takeif.ok sc_takeif (fun vs H Q E h => ?_) (fun cdv A outer s H vs Q E hr h => ?_)
  · obtain ⟨p, ws, i, rfl, _⟩ := h
    rfl
  · obtain ⟨p, ws, i, rfl, R, hw, hi, q⟩ := h
    refine ⟨_, (pss_cons (ps_set (i := 2) sc_takeif.nd rfl (.inl rfl) (pe_meth0 (pv 0) T.cl_Reader T.m_peek (ok_peek T) (hr.mono (by decide)) T.b_peek .nil pass0))
  (pss_cons (ps_if (pt_not (pt_val (pv 1)))
  (pss_one ps_never)
  pss_nil)
  (pss_cons (ps_fldaug (pv 0) pe_int in_add)
  (pss_one (ps_ret (pv 2)))))), ?_⟩
    obtain ⟨dx, l, hp, hl⟩ := R.ex
    refine ⟨_, rfl, p, dx, _, rfl, hp, rfl, p, ws, i, rfl, R, hw, ?_⟩
    refine ⟨_, rfl, true, rfl, ?_⟩
    refine iteF (nx_ ?_)
    refine ⟨_, rfl, p, _, dx, _, _, rfl, hp, T.cl_Reader, T.na_Reader_at, rfl, _, _, rfl, rfl, dx, _, hp, by show 2 < 1000; decide, _, rfl, ?_⟩
    refine q _ (VR.set hp) ⟨dx, l, upd_same, ?_⟩
    rw [upd_ne (fun e => by rw [e, hp] at hl; cases hl)]
    exact hl
def spTword (C : Addr) : Sp := fun vs H Q _ => ∃ (p : Addr) (ws : List Str) (i : Nat) (z : Str), vs = [.ref p, .str z] ∧ Rd H p C ws i ∧ ws.length ≤ 10 ^ 6 ∧ i ≤ 10 ^ 6 ∧ ws.getD i "" = z ∧ ∀ H', VR p H H' → Rd H' p C ws (i + 1) → Q .non H'
theorem ok_takeword (T : Tp K w mg) : FnOk P w K mg base CX0 3 T.f_takeword T.fd_takeword ["self", "word"] (spTword T.C_Reader) := by
  refine T.D_takeword.ok sc_takeword (fun vs H Q E h => ?_) (fun cdv A outer s H vs Q E hr h => ?_)
  · obtain ⟨p, ws, i, z, rfl, _⟩ := h
    rfl
  · obtain ⟨p, ws, i, z, rfl, R, hw, hi, ez, q⟩ := h
    refine ⟨_, (pss_one (ps_expr (pe_meth (pv 0) T.cl_Reader T.m_takeif (ok_takeif T) (hr.mono (by decide)) T.b_takeif .nil pass0 (pa_cons (pe_cmpR op_eq (pe_meth0 (pv 0) T.cl_Reader T.m_peek (ok_peek T) (hr.mono (by decide)) T.b_peek .nil pass0) (pv 1) (nomark _)) pa_nil)))), ?_⟩
    obtain ⟨dx, l, hp, hl⟩ := R.ex
    refine ⟨_, rfl, p, dx, _, rfl, hp, rfl, _, rfl, p, dx, _, rfl, hp, rfl, p, ws, i, rfl, R, hw, _, rfl, rfl, ?_⟩
    refine ⟨p, ws, i, by rw [ez, decide_eq_true rfl]; rfl, R, hw, hi, fun H' v R' => q H' v R'⟩
def spTname (C : Addr) : Sp := fun vs H Q _ => ∃ (p : Addr) (ws : List Str) (i : Nat) (z : Str), vs = [.ref p] ∧ Rd H p C ws i ∧ ws.length ≤ 10 ^ 6 ∧ i ≤ 10 ^ 6 ∧ ws.getD i "" = z ∧ isNameL z = true ∧ ∀ H', VR p H H' → Rd H' p C ws (i + 1) → Q (.str z) H'
theorem ok_takename (T : Tp K w mg) : FnOk P w K mg base CX0 3 T.f_takename T.fd_takename ["self"] (spTname T.C_Reader) := by
  refine T.D_takename.ok sc_takename (fun vs H Q E h => ?_) (fun cdv A outer s H vs Q E hr h => ?_)
  · obtain ⟨p, ws, i, z, rfl, _⟩ := h
    rfl
  · obtain ⟨p, ws, i, z, rfl, R, hw, hi, ez, hn, q⟩ := h
    refine ⟨_, (pss_one (ps_ret (pe_meth (pv 0) T.cl_Reader T.m_takeif (ok_takeif T) (hr.mono (by decide)) T.b_takeif .nil pass0 (pa_cons (pcall T.D_isname (ok_isname T) (hr.mono (by decide)) (by rfl) (pa_cons (pe_meth0 (pv 0) T.cl_Reader T.m_peek (ok_peek T) (hr.mono (by decide)) T.b_peek .nil pass0) pa_nil)) pa_nil)))), ?_⟩
    obtain ⟨dx, l, hp, hl⟩ := R.ex
    refine ⟨_, rfl, p, dx, _, rfl, hp, rfl, _, rfl, p, dx, _, rfl, hp, rfl, p, ws, i, rfl, R, hw, ?_⟩
    refine ⟨_, .str z, by rw [ez]; rfl, .str z, (Low.of hn).ok, fun H1 s1 => ?_⟩
    refine ⟨p, ws, i, by show _ = [V.ref p, V.bl true]; rw [← hn]; rfl, R.same s1, hw, hi, fun H' v R' => ?_⟩
    rw [ez]
    exact q H' ((VR.of s1).tr v) R'
def spTnum (C : Addr) : Sp := fun vs H Q _ => ∃ (p : Addr) (ws : List Str) (i : Nat) (v : Int), vs = [.ref p] ∧ Rd H p C ws i ∧ ws.length ≤ 10 ^ 6 ∧ i ≤ 10 ^ 6 ∧ ws.getD i "" = intS v ∧ v.natAbs ≤ 10 ^ 13 ∧ ∀ H', VR p H H' → Rd H' p C ws (i + 1) → Q (.int v) H'
theorem ok_takenum (T : Tp K w mg) : FnOk P w K mg base CX0 3 T.f_takenum T.fd_takenum ["self"] (spTnum T.C_Reader) := by
  refine T.D_takenum.ok sc_takenum (fun vs H Q E h => ?_) (fun cdv A outer s H vs Q E hr h => ?_)
  · obtain ⟨p, ws, i, z, rfl, _⟩ := h
    rfl
  · obtain ⟨p, ws, i, v, rfl, R, hw, hi, ez, hn, q⟩ := h
    refine ⟨_, (pss_one (ps_ret (pe_callTy call_int_str (by rfl) T.int (by decide +kernel) (pa_cons (pe_meth (pv 0) T.cl_Reader T.m_takeif (ok_takeif T) (hr.mono (by decide)) T.b_takeif .nil pass0 (pa_cons (pcall T.D_isfig (ok_isfig T) (hr.mono (by decide)) (by rfl) (pa_cons (pe_meth0 (pv 0) T.cl_Reader T.m_peek (ok_peek T) (hr.mono (by decide)) T.b_peek .nil pass0) pa_nil)) pa_nil)) pa_nil)))), ?_⟩
    obtain ⟨dx, l, hp, hl⟩ := R.ex
    refine ⟨_, rfl, p, dx, _, rfl, hp, rfl, _, rfl, p, dx, _, rfl, hp, rfl, p, ws, i, rfl, R, hw, ?_⟩
    refine ⟨_, by rfl, by rw [ez]; have := int_len hn; omega, by rw [ez]; exact okS_int v, fun H1 s1 => ?_⟩
    refine ⟨p, ws, i, by rw [ez, isFig_int]; rfl, R.same s1, hw, hi, fun H' v' R' => ?_⟩
    rw [ez]
    exact ⟨_, v, rfl, intText_int hn, by have := int_len hn; omega, q H' ((VR.of s1).tr v') R'⟩
end
end TP
namespace TP
open PySem PySem.Spec PyProof.Rows L2 HX HB HG HU HH HD HS HV HQ HK HN HJ TL HM
/-! ### what may be read -/
def cR (n : Nat) (d : PyData) : Prop := cOk n d = true ∧ isCalcD d = true ∧ wtD d ≤ 10 ^ 6
def LeafR (kind : Str) (d : PyData) : Prop := if kind = "calc" then isCalcD d = true else match rangeOf kind with
  | some r => ∃ i : Int, d = .int i ∧ r.1 ≤ i ∧ i ≤ r.2
  | none => ∃ z, d = .str z ∧ isNameL z = true
theorem leaf_of {cs ls hs : List Str} {ps : List (Str × Str)} {kind : Str} {d : PyData} (h : isPartD cs ls hs ps kind d = true) (hb : kind ≠ "body") : LeafR kind d := by
  unfold isPartD at h
  unfold LeafR
  split
  · rename_i h1; rw [if_pos h1] at h; exact h
  · rename_i h1
    rw [if_neg h1, if_neg hb] at h
    cases e : rangeOf kind with
    | some r =>
      rw [e] at h
      cases d with
      | int i =>
        have h : (decide (r.1 ≤ i) && decide (i ≤ r.2)) = true := h
        simp only [Bool.and_eq_true, decide_eq_true_eq] at h
        exact ⟨i, rfl, h.1, h.2⟩
      | _ => cases h
    | none =>
      rw [e] at h
      cases d with
      | str z =>
        have h : (isNameL z && _) = true := h
        rw [Bool.and_eq_true] at h
        exact ⟨z, rfl, h.1⟩
      | _ => cases h
def rowsRd : Nat → List PyData → Prop
  | 0, rows => rows = []
  | n + 1, rows => ∀ r ∈ rows, ∃ z ks ds, RowT (rowsRd n) r z ks ds ∧ ∀ q ∈ ks.zip ds, q.1 ≠ "body" → LeafR q.1 q.2
theorem rowsRd_of {cn ls hn : List Str} : ∀ (n : Nat) (rows : List PyData) (place : List Int) (ps : List (Str × Str)) (oft : Int), n ≤ 11 → wrongD cn ls hn (n + 1) rows place ps oft = none → Good (.tuple rows) (2 * n + 1) → rowsRd (n + 1) rows := by
  intro n
  induction n with
  | zero =>
    intro rows place ps oft hn hw hg r hr
    exfalso
    rw [wrong_succ] at hw
    obtain ⟨k, hk⟩ := List.getElem?_of_mem hr
    have h1 := first_at hw k r hk
    unfold rowF at h1
    split at h1
    · cases h1
    · rename_i h2
      simp only [not_or, Bool.not_eq_false] at h2
      obtain ⟨z, ks, ds, R⟩ := row_ok h2.2
      have h3 := (hg.item hr).dep
      rw [R.eq] at h3
      simp only [PyData.depth] at h3
      omega
  | succ n ih =>
    intro rows place ps oft hn hw hg r hr
    rw [wrong_succ] at hw
    obtain ⟨k, hk⟩ := List.getElem?_of_mem hr
    have h1 := first_at hw k r hk
    unfold rowF at h1
    split at h1
    · cases h1
    · rename_i h2
      simp only [not_or, Bool.not_eq_false] at h2
      obtain ⟨z, ks, ds, R⟩ := row_ok h2.2
      split at h1
      · cases h1
      · have hgr := hg.item hr
        have hgr2 := hgr
        rw [R.eq] at hgr2
        refine ⟨z, ks, ds, ⟨R.eq, R.ks_, R.len.symm, fun q hq hb => ?_, fun q hq hb => ?_⟩, fun q hq hb => leaf_of (R.parts q hq) hb⟩
        · have hp := R.parts q hq
          rw [hb] at hp
          obtain ⟨bs, ebs⟩ := part_bdy hp
          refine ⟨bs, ebs, ?_⟩
          have hm := body_mem hq hb
          have eb : bodiesD r = bodiesV ks ds := by rw [R.eq]; simp only [bodiesD, R.ks_]
          rw [← eb] at hm
          obtain ⟨j, hj⟩ := List.getElem?_of_mem hm
          have h3 := first_at h1 j _ hj
          rw [ebs] at h3
          refine ih bs _ _ _ (by omega) h3 ?_
          have hg2 : Good (.tuple (.str z :: ds)) (2 * n + 1 + 1) := hgr2.mono (by omega)
          have hi := hg2.item (d := q.2) (List.mem_cons_of_mem _ (zip_mem2 hq))
          rw [ebs] at hi
          exact hi
        · have hp := R.parts q hq
          have hg2 : Good (.tuple (.str z :: ds)) (2 * n + 1 + 1) := hgr2.mono (by omega)
          have hig := hg2.item (d := q.2) (List.mem_cons_of_mem _ (zip_mem2 hq))
          have hi := hig.dep
          exact part_cOk hp hb (by omega) hig.lay
theorem Rows.rowsRd {cn ls hn : List Str} {rows : List PyData} {k : Nat} (h : Rows cn ls hn [] 0 0 rows k) (hl : rows.length ≤ 10000) : rowsRd 12 rows :=
  rowsRd_of 11 rows [] [] 0 (Nat.le_refl _) (h.right 11 [] (by decide) rfl) ((h.good1 hl).mono (by decide))
/-! ### words ahead -/
theorem drop_head {ws : List Str} {i : Nat} {z : Str} {r : List Str} (h : ws.drop i = z :: r) : ws.getD i "" = z ∧ ws.drop (i + 1) = r ∧ i < ws.length := by
  have hi : i < ws.length := by
    by_cases h1 : i < ws.length
    · exact h1
    · rw [List.drop_eq_nil_of_le (by omega)] at h; cases h
  rw [List.drop_eq_getElem_cons hi] at h
  injection h with h1 h2
  refine ⟨?_, h2, hi⟩
  rw [List.getD_eq_getElem?_getD, List.getElem?_eq_getElem hi]
  exact h1
theorem drop_more {ws : List Str} {i : Nat} {a r : List Str} (h : ws.drop i = a ++ r) : ws.drop (i + a.length) = r := by
  rw [← List.drop_drop, h, List.drop_left]
theorem drop_len {ws : List Str} {i : Nat} {a r : List Str} (h : ws.drop i = a ++ r) (n : a ≠ []) : i + a.length + r.length = ws.length := by
  have := congrArg List.length h
  rw [List.length_drop, List.length_append] at this
  have : 0 < a.length := by cases a with | nil => exact absurd rfl n | cons _ _ => simp
  omega
theorem cw_ne : ∀ {d : PyData}, isCalcD d = true → cwD d ≠ []
  | .int _, _ => by simp [cwD]
  | .str _, _ => by simp [cwD]
  | .tuple [.str k, a, b], _ => by simp [cwD]
  | .none, h => by simp [isCalcD] at h
  | .bool _, h => by simp [isCalcD] at h
  | .list _, h => by simp [isCalcD] at h
  | .dict _, h => by simp [isCalcD] at h
  | .tuple [], h => by simp [isCalcD] at h
  | .tuple [_], h => by simp [isCalcD] at h
  | .tuple [_, _], h => by simp [isCalcD] at h
  | .tuple (_ :: _ :: _ :: _ :: _), h => by simp [isCalcD] at h
  | .tuple [.int _, _, _], h => by simp [isCalcD, isKindD] at h
  | .tuple [.none, _, _], h => by simp [isCalcD, isKindD] at h
  | .tuple [.bool _, _, _], h => by simp [isCalcD, isKindD] at h
  | .tuple [.list _, _, _], h => by simp [isCalcD, isKindD] at h
  | .tuple [.tuple _, _, _], h => by simp [isCalcD, isKindD] at h
  | .tuple [.dict _, _, _], h => by simp [isCalcD, isKindD] at h
theorem calc_tup {n : Nat} {d : PyData} (h : cOk n d = true) : tupD d = true := by
  induction n generalizing d with
  | zero =>
    rcases cOk_inv h with ⟨i, rfl⟩ | ⟨y, rfl⟩ | ⟨m, k, a, b, e, _⟩
    · rfl
    · rfl
    · exact absurd e (by omega)
  | succ n ih =>
    rcases cOk_inv h with ⟨i, rfl⟩ | ⟨y, rfl⟩ | ⟨m, k, a, b, e, rfl, ca, cb⟩
    · rfl
    · rfl
    · cases e
      show (true && (tupD a && (tupD b && true))) = true
      rw [ih ca, ih cb]
      rfl
section
variable {P : Program} {w : World} {K : PySem.W.Frag} {mg : Str → Option Value} {base : Heap}
def spTcalc (K : PySem.W.Frag) (C : Addr) (n : Nat) : Sp := fun vs H Q _ => ∃ (p : Addr) (ws : List Str) (i : Nat) (d : PyData) (rest : List Str), vs = [.ref p] ∧ Rd H p C ws i ∧ ws.length ≤ 10 ^ 6 ∧ ws.drop i = cwD d ++ rest ∧ cR n d ∧ ∀ v H', VR p H H' → Dp K H' v d → Rd H' p C ws (i + (cwD d).length) → Q v H'
theorem ok_takecalc (T : Tp K w mg) : ∀ n, FnOk P w K mg base CX0 (n + 3 + 1) T.f_takecalc T.fd_takecalc ["self"] (spTcalc K T.C_Reader n) := rec_fn (c := 3) (sp := spTcalc K T.C_Reader) fun n ih => by
  refine T.D_takecalc.ok sc_takecalc (fun vs H Q E h => ?_) (fun cdv A outer s H vs Q E hr h => ?_)
  · obtain ⟨p, ws, i, d, rest, rfl, _⟩ := h
    rfl
  · obtain ⟨p, ws, i, d, rest, rfl, R, hw, hdr, ⟨hc, hcalc, h6⟩, q⟩ := h
    have hu := hu_of hr
    refine ⟨_, (pss_cons (ps_if (pt_val (pcall T.D_isfig (ok_isfig T) (hr.mono (by omega)) (by rfl) (pa_cons (pe_meth0 (pv 0) T.cl_Reader T.m_peek (ok_peek T) (hr.mono (by omega)) T.b_peek .nil pass0) pa_nil)))
  (pss_one (ps_ret (pe_meth0 (pv 0) T.cl_Reader T.m_takenum (ok_takenum T) (hr.mono (by omega)) T.b_takenum .nil pass0)))
  pss_nil)
  (pss_cons (ps_if (pt_cmpR op_ne (pe_meth0 (pv 0) T.cl_Reader T.m_peek (ok_peek T) (hr.mono (by omega)) T.b_peek .nil pass0) pe_str (nomark _))
  (pss_one (ps_ret (pe_meth0 (pv 0) T.cl_Reader T.m_takename (ok_takename T) (hr.mono (by omega)) T.b_takename .nil pass0)))
  pss_nil)
  (pss_cons (ps_expr (pe_meth (pv 0) T.cl_Reader T.m_takeword (ok_takeword T) (hr.mono (by omega)) T.b_takeword .nil pass0 (pa_cons pe_str pa_nil)))
  (pss_cons (ps_set (i := 1) sc_takecalc.nd rfl (.inl rfl) (pe_meth (pv 0) T.cl_Reader T.m_takeif (ok_takeif T) (hr.mono (by omega)) T.b_takeif .nil pass0 (pa_cons (pe_cmpR op_in_seq (pe_meth0 (pv 0) T.cl_Reader T.m_peek (ok_peek T) (hr.mono (by omega)) T.b_peek .nil pass0) (pe_gr (by rfl) T.c_KINDS) (by rfl)) pa_nil)))
  (pss_cons (ps_set (i := 2) sc_takecalc.nd rfl (.inl rfl) (pe_meth0 (pv 0) T.cl_Reader T.m_takecalc ih (hr.mono (by omega)) T.b_takecalc .nil pass0))
  (pss_cons (ps_set (i := 3) sc_takecalc.nd rfl (.inl rfl) (pe_meth0 (pv 0) T.cl_Reader T.m_takecalc ih (hr.mono (by omega)) T.b_takecalc .nil pass0))
  (pss_cons (ps_expr (pe_meth (pv 0) T.cl_Reader T.m_takeword (ok_takeword T) (hr.mono (by omega)) T.b_takeword .nil pass0 (pa_cons pe_str pa_nil)))
  (pss_one (ps_ret (pe_tup (pa_cons (pv 1) (pa_cons (pv 2) (pa_cons (pv 3) pa_nil))))))))))))), ?_⟩
    have hne := cw_ne hcalc
    have hlen := drop_len hdr hne
    obtain ⟨dx, l, hp, hl⟩ := R.ex
    rcases cOk_inv hc with ⟨v, rfl⟩ | ⟨z, rfl⟩ | ⟨m, k, a, b, rfl, rfl, ca, cb⟩
    · have hdr : ws.drop i = intS v :: rest := hdr
      obtain ⟨e1, e2, e3⟩ := drop_head hdr
      have hv := wt_small h6 (by decide)
      refine ⟨_, rfl, p, dx, _, rfl, hp, rfl, p, ws, i, rfl, R, hw, _, by rfl, by rw [e1]; have := int_len hv; omega, by rw [e1]; exact okS_int v, fun H1 s1 => ?_⟩
      rw [e1, isFig_int]
      refine ⟨true, rfl, iteT ?_⟩
      have R1 := R.same s1
      exact ⟨_, rfl, p, dx, _, rfl, s1 _ _ hp, rfl, p, ws, i, v, rfl, R1, hw, by omega, e1, hv, fun H' v' R' => q _ _ ((VR.of s1).tr v') (.int v) R'⟩
    · have hdr : ws.drop i = z :: rest := hdr
      obtain ⟨e1, e2, e3⟩ := drop_head hdr
      have hz : isNameL z = true := hcalc
      have hzl := (name_len hz).2
      refine ⟨_, rfl, p, dx, _, rfl, hp, rfl, p, ws, i, rfl, R, hw, _, by rfl, by rw [e1]; omega, by rw [e1]; exact name_okS hz, fun H1 s1 => ?_⟩
      rw [e1, isFig_name hz]
      refine ⟨false, rfl, iteF (nx_ ?_)⟩
      have R1 := R.same s1
      refine ⟨_, rfl, p, dx, _, rfl, s1 _ _ hp, rfl, p, ws, i, rfl, R1, hw, rfl, _, rfl, ?_⟩
      rw [e1]
      refine ite1 ?_ ?_
      · rw [es_str, decide_eq_false (fun h => ?_)]
        · rfl
        · subst h; exact absurd hz (by decide +kernel)
      exact ⟨_, rfl, p, dx, _, rfl, s1 _ _ hp, rfl, p, ws, i, z, rfl, R1, hw, by omega, e1, hz, fun H' v' R' => q _ _ ((VR.of s1).tr v') (.str z) R'⟩
    · have hcalc : (isKindD (.str k) && (isCalcD a && isCalcD b)) = true := hcalc
      simp only [Bool.and_eq_true] at hcalc
      have hkd : k = "sum" ∨ k = "minus" ∨ k = "less" := of_decide_eq_true hcalc.1
      have e : wtD (.tuple [.str k, a, b]) = 4 + (k.length + 4 + (wtD a + (wtD b + 0))) := rfl
      rw [e, six] at h6
      have hdr : ws.drop i = ("(" : Str) :: k :: (cwD a ++ (cwD b ++ ((")" : Str) :: rest))) := by
        rw [hdr]
        show (([("(" : Str), k] ++ cwD a ++ cwD b) ++ [(")" : Str)]) ++ rest = _
        simp only [List.append_assoc, List.cons_append, List.nil_append]
      obtain ⟨e1, d1, i1⟩ := drop_head hdr
      obtain ⟨e2, d2, i2⟩ := drop_head d1
      refine ⟨_, rfl, p, dx, _, rfl, hp, rfl, p, ws, i, rfl, R, hw, _, by rfl, by rw [e1]; decide, by rw [e1]; decide +kernel, fun H1 s1 => ?_⟩
      rw [e1, show isFig "(" = false by decide +kernel]
      refine ⟨false, rfl, iteF (nx_ ?_)⟩
      have R1 := R.same s1
      refine ⟨_, rfl, p, dx, _, rfl, s1 _ _ hp, rfl, p, ws, i, rfl, R1, hw, rfl, _, rfl, ?_⟩
      rw [e1]
      refine ite0 (by rw [decide_eq_true rfl]; rfl) (nx_ ?_)
      -- (
      refine ⟨_, rfl, p, dx, _, rfl, s1 _ _ hp, rfl, p, ws, i, "(", rfl, R1, hw, by omega, e1, fun H2 v2 R2 => ?_⟩
      obtain ⟨dx2, l2, hp2, hl2⟩ := R2.ex
      refine nx_ ?_
      -- the kind
      refine ⟨_, rfl, p, dx2, _, rfl, hp2, rfl, _, rfl, p, dx2, _, rfl, hp2, rfl, p, ws, i + 1, rfl, R2, hw, ?_⟩
      refine ⟨_, _, rfl, .inr (T.t_KINDS H2), rfl, rfl, ?_⟩
      rw [if_neg Bool.false_ne_true, e2, kinds_in, decide_eq_true hkd]
      refine ⟨p, ws, i + 1, rfl, R2, hw, by omega, fun H3 v3 R3 => ?_⟩
      rw [e2]
      obtain ⟨dx3, l3, hp3, hl3⟩ := R3.ex
      refine ⟨_, rfl, p, dx3, _, rfl, hp3, rfl, p, ws, i + 1 + 1, a, cwD b ++ ((")" : Str) :: rest), rfl, R3, hw, d2, ⟨ca, hcalc.2.1, by rw [six]; omega⟩, fun x H4 v4 dx4 R4 => ?_⟩
      have d4 := drop_more d2
      obtain ⟨dx4', l4, hp4, hl4⟩ := R4.ex
      refine ⟨_, rfl, p, dx4', _, rfl, hp4, rfl, p, ws, _, b, (")" : Str) :: rest, rfl, R4, hw, d4, ⟨cb, hcalc.2.2, by rw [six]; omega⟩, fun y H5 v5 dy5 R5 => ?_⟩
      have d5 := drop_more d4
      obtain ⟨e5, d6, i5⟩ := drop_head d5
      obtain ⟨dx5, l5, hp5, hl5⟩ := R5.ex
      refine nx_ ?_
      refine ⟨_, rfl, p, dx5, _, rfl, hp5, rfl, p, ws, _, ")", rfl, R5, hw, by omega, e5, fun H6 v6 R6 => ?_⟩
      refine nx_ ?_
      obtain ⟨dx6, l6, hp6, hl6⟩ := R6.ex
      have hx6 := v6.dp hp5 (calc_tup ca) (v5.dp hp4 (calc_tup ca) dx4)
      have hy6 := v6.dp hp5 (calc_tup cb) dy5
      refine ⟨_, rfl, _, rfl, _, rfl, by show 3 ≤ sizeLine; decide, fun t nt => ?_⟩
      obtain ⟨s7, d7⟩ := new_tup (K := K) nt (.cons (.str k) (.cons hx6 (.cons hy6 .nil)))
      refine q _ _ ((((((VR.of s1).tr v2).tr v3).tr v4).tr v5).tr v6 |>.trans s7) d7 ?_
      have R7 := R6.same s7
      have el : i + 1 + 1 + (cwD a).length + (cwD b).length + 1 = i + (cwD (.tuple [.str k, a, b])).length := by
        show _ = i + (([("(" : Str), k] ++ cwD a ++ cwD b) ++ [(")" : Str)]).length
        simp only [List.length_append, List.length_cons, List.length_nil]
        omega
      rw [el] at R7
      exact R7
end
end TP
namespace TP
open PySem PySem.Spec PyProof.Rows L2 HX HB HG HU HH HD HS HV HQ HK HN HJ TL HM
theorem numd_in (s : Str) : inV (.str s) [.str "rest", .str "span", .str "times"] = (rangeOf s).isSome := by
  show (eqV (.str "rest") (.str s) || (eqV (.str "span") (.str s) || (eqV (.str "times") (.str s) || false))) = _
  unfold rangeOf rangesL
  simp only [eqV, Bool.or_false, List.find?_cons, List.find?_nil]
  have e : ∀ z : Str, (z == s) = decide (z = s) := fun z => by
    by_cases h : z = s
    · subst h; simp
    · rw [decide_eq_false h]; exact beq_eq_false_iff_ne.mpr h
  rw [e, e, e]
  cases decide (("rest" : Str) = s) <;> cases decide (("span" : Str) = s) <;> cases decide (("times" : Str) = s) <;> rfl
theorem tup_mem : ∀ {xs : List PyData} {x : PyData}, tupAll xs = true → x ∈ xs → tupD x = true
  | y :: ys, x, h, hm => by
    simp only [tupAll, Bool.and_eq_true] at h
    rcases List.mem_cons.mp hm with rfl | hm
    · exact h.1
    · exact tup_mem h.2 hm
theorem tup_take {xs : List PyData} (h : tupAll xs = true) (k : Nat) : tupAll (xs.take k) = true := by
  induction xs generalizing k with
  | nil => rw [List.take_nil]; rfl
  | cons x xs ih =>
    simp only [tupAll, Bool.and_eq_true] at h
    cases k with
    | zero => rfl
    | succ k =>
      rw [List.take_succ_cons]
      simp only [tupAll, Bool.and_eq_true]
      exact ⟨h.1, ih h.2 k⟩
theorem kinds_ne {w : Str} {ks : List Str} (h : kindsOf w = some ks) : ks ≠ [] := by
  have : ∀ q ∈ partsL, q.2 ≠ [] := by decide +kernel
  exact this _ (kindsOf_mem h)
theorem word_not {w : Str} {ks : List Str} (h : kindsOf w = some ks) : w ≠ "" ∧ w ≠ "}" ∧ w ≠ "cell" ∧ w ≠ "lock" ∧ w ≠ "channel" := by
  have : ∀ q ∈ partsL, q.1 ≠ "" ∧ q.1 ≠ "}" ∧ q.1 ≠ "cell" ∧ q.1 ≠ "lock" ∧ q.1 ≠ "channel" := by decide +kernel
  exact this _ (kindsOf_mem h)
theorem wt_pos1 : ∀ d : PyData, 1 ≤ wtD d
  | .int i => by show 1 ≤ (if i.natAbs ≤ 10 ^ 13 then 20 else 10 ^ 9); split <;> decide
  | .str z => by show 1 ≤ z.length + 4; omega
  | .tuple xs => by show 1 ≤ 4 + wtAll xs; omega
  | .list xs => by show 1 ≤ 4 + wtAll xs; omega
  | .bool _ => by show 1 ≤ 8; decide
  | .none => by show 1 ≤ 8; decide
  | .dict _ => by show 1 ≤ 10 ^ 9; decide
theorem wt_len : ∀ rows : List PyData, rows.length ≤ wtAll rows
  | [] => Nat.zero_le _
  | r :: rows => by
    have := wt_len rows
    show rows.length + 1 ≤ wtD r + wtAll rows
    have : 1 ≤ wtD r := wt_pos1 r
    omega
theorem wt_range {i : Int} (h : i.natAbs ≤ 100) : i.natAbs ≤ 10 ^ 13 := Nat.le_trans h (by decide)
section
variable {P : Program} {w : World} {K : PySem.W.Frag} {mg : Str → Option Value} {base : Heap}
def spTpart (K : PySem.W.Frag) (C : Addr) (n : Nat) : Sp := fun vs H Q _ => ∃ (p : Addr) (ws : List Str) (i : Nat) (kind : Str) (d : PyData) (rest : List Str), vs = [.ref p, .str kind] ∧ Rd H p C ws i ∧ ws.length ≤ 10 ^ 6 ∧ ws.drop i = partW (bwD n) kind d ++ rest ∧
  (kind = "body" → ∃ bs, d = .tuple bs ∧ rowsRd n bs ∧ tupAll bs = true ∧ wtAll bs ≤ 10 ^ 6) ∧ (kind ≠ "body" → LeafR kind d ∧ cOk 22 d = true ∧ wtD d ≤ 10 ^ 6) ∧ ∀ v H', VR p H H' → Dp K H' v d → Rd H' p C ws (i + (partW (bwD n) kind d).length) → Q v H'
def spTrows (K : PySem.W.Frag) (C : Addr) (n : Nat) : Sp := fun vs H Q _ => ∃ (p : Addr) (ws : List Str) (i : Nat) (last : Str) (rows : List PyData) (rest : List Str), vs = [.ref p, .str last] ∧ Rd H p C ws i ∧ ws.length ≤ 10 ^ 6 ∧ ws.drop i = bwD n rows ++ rest ∧ rest.getD 0 "" = last ∧ (last = "" ∨ last = "}") ∧ i ≤ 10 ^ 6 ∧
  rowsRd n rows ∧ tupAll rows = true ∧ wtAll rows ≤ 10 ^ 6 ∧ ∀ v H', VR p H H' → Dp K H' v (.tuple rows) → Rd H' p C ws (i + (bwD n rows).length) → Q v H'
theorem ok_takepart (T : Tp K w mg) {n L : Nat} (hL : 26 ≤ L) (hb : FnOk P w K mg base CX0 L T.f_takerows T.fd_takerows ["self", "last"] (spTrows K T.C_Reader n)) : FnOk P w K mg base CX0 (L + 1) T.f_takepart T.fd_takepart ["self", "kind"] (spTpart K T.C_Reader n) := by
  refine T.D_takepart.ok sc_takepart (fun vs H Q E h => ?_) (fun cdv A outer s H vs Q E hr h => ?_)
  · obtain ⟨p, ws, i, kind, d, rest, rfl, _⟩ := h
    rfl
  · obtain ⟨p, ws, i, kind, d, rest, rfl, R, hw, hdr, hbd, hlf, q⟩ := h
    have hu := hu_of hr
    refine ⟨_, (pss_cons (ps_if (pt_cmpR op_eq (pv 1) pe_str (nomark _))
  (pss_one (ps_ret (pe_meth0 (pv 0) T.cl_Reader T.m_takecalc (ok_takecalc T 22) (hr.mono (by omega)) T.b_takecalc .nil pass0)))
  pss_nil)
  (pss_cons (ps_if (pt_cmpR op_in_seq (pv 1) (pe_gr (by rfl) T.c_NUMBERED) (by rfl))
  (pss_one (ps_ret (pe_meth0 (pv 0) T.cl_Reader T.m_takenum (ok_takenum T) (hr.mono (by omega)) T.b_takenum .nil pass0)))
  pss_nil)
  (pss_cons (ps_if (pt_cmpR op_ne (pv 1) pe_str (nomark _))
  (pss_one (ps_ret (pe_meth0 (pv 0) T.cl_Reader T.m_takename (ok_takename T) (hr.mono (by omega)) T.b_takename .nil pass0)))
  pss_nil)
  (pss_cons (ps_expr (pe_meth (pv 0) T.cl_Reader T.m_takeword (ok_takeword T) (hr.mono (by omega)) T.b_takeword .nil pass0 (pa_cons pe_str pa_nil)))
  (pss_cons (ps_set (i := 2) sc_takepart.nd rfl (.inl rfl) (pe_meth (pv 0) T.cl_Reader T.m_takerows hb (hr.mono (by omega)) T.b_takerows .nil pass0 (pa_cons pe_str pa_nil)))
  (pss_cons (ps_expr (pe_meth (pv 0) T.cl_Reader T.m_takeword (ok_takeword T) (hr.mono (by omega)) T.b_takeword .nil pass0 (pa_cons pe_str pa_nil)))
  (pss_one (ps_ret (pv 2))))))))), ?_⟩
    obtain ⟨dx, l, hp, hl⟩ := R.ex
    refine ⟨_, rfl, rfl, _, rfl, ?_⟩
    rw [es_str]
    refine ite2 (fun h1 => ?_) (fun h1 => ?_)
    · have h1 := of_decide_eq_true h1
      subst h1
      obtain ⟨h2, h3, h4⟩ := hlf (by decide +kernel)
      have ep : partW (bwD n) "calc" d = cwD d := rfl
      rw [ep] at hdr q
      exact ⟨_, rfl, p, dx, _, rfl, hp, rfl, p, ws, i, d, rest, rfl, R, hw, hdr, ⟨h3, h2, h4⟩, q⟩
    have h1 : kind ≠ "calc" := fun h => h1 (decide_eq_true h)
    refine nx_ ⟨_, rfl, _, _, rfl, .inr (T.t_NUMBERED H), rfl, rfl, _, rfl, ?_⟩
    rw [if_neg Bool.false_ne_true, numd_in]
    cases er : rangeOf kind with
    | some r =>
      refine iteT ?_
      have hb2 : kind ≠ "body" := fun h => by subst h; rw [show rangeOf "body" = none by decide +kernel] at er; cases er
      obtain ⟨h2, h3, h4⟩ := hlf hb2
      have ep : partW (bwD n) kind d = cwD d := by unfold partW; rw [if_neg hb2]
      rw [ep] at hdr q
      unfold LeafR at h2
      rw [if_neg h1, er] at h2
      obtain ⟨v, rfl, v1, v2⟩ := h2
      have hdr : ws.drop i = intS v :: rest := hdr
      obtain ⟨e1, e2, e3⟩ := drop_head hdr
      exact ⟨_, rfl, p, dx, _, rfl, hp, rfl, p, ws, i, v, rfl, R, hw, by omega, e1, wt_small h4 (by decide), fun H' v' R' => q _ _ v' (.int v) R'⟩
    | none =>
      refine iteF (nx_ ?_)
      refine ⟨_, rfl, rfl, _, rfl, ?_⟩
      rw [es_str]
      refine ite2 (fun hb2 => ?_) (fun hb2 => ?_)
      · have hb2 : kind ≠ "body" := fun h => by rw [decide_eq_true h] at hb2; cases hb2
        obtain ⟨h2, h3, h4⟩ := hlf hb2
        have ep : partW (bwD n) kind d = cwD d := by unfold partW; rw [if_neg hb2]
        rw [ep] at hdr q
        unfold LeafR at h2
        rw [if_neg h1, er] at h2
        obtain ⟨z, rfl, hz⟩ := h2
        have hdr : ws.drop i = z :: rest := hdr
        obtain ⟨e1, e2, e3⟩ := drop_head hdr
        exact ⟨_, rfl, p, dx, _, rfl, hp, rfl, p, ws, i, z, rfl, R, hw, by omega, e1, hz, fun H' v' R' => q _ _ v' (.str z) R'⟩
      · have hb2 : kind = "body" := by
          by_cases h : kind = "body"
          · exact h
          · rw [decide_eq_false h] at hb2; exact absurd rfl hb2
        subst hb2
        obtain ⟨bs, rfl, hrd, htp, hwt⟩ := hbd rfl
        have ep : partW (bwD n) "body" (.tuple bs) = ([("{" : Str)] ++ bwD n bs) ++ [("}" : Str)] := rfl
        rw [ep] at hdr q
        have hdr : ws.drop i = ("{" : Str) :: (bwD n bs ++ (("}" : Str) :: rest)) := by
          rw [hdr]
          simp only [List.append_assoc, List.cons_append, List.nil_append]
        obtain ⟨e1, d1, i1⟩ := drop_head hdr
        refine nx_ ⟨_, rfl, p, dx, _, rfl, hp, rfl, p, ws, i, "{", rfl, R, hw, by omega, e1, fun H1 v1 R1 => nx_ ?_⟩
        obtain ⟨dx1, l1, hp1, hl1⟩ := R1.ex
        refine ⟨_, rfl, p, dx1, _, rfl, hp1, rfl, p, ws, i + 1, "}", bs, (("}" : Str) :: rest), rfl, R1, hw, d1, rfl, .inr rfl, by omega, hrd, htp, hwt, fun v H2 v2 d2 R2 => ?_⟩
        obtain ⟨dx2, l2, hp2, hl2⟩ := R2.ex
        have d3 := drop_more d1
        obtain ⟨e3, d4, i3⟩ := drop_head d3
        refine ⟨_, rfl, p, dx2, _, rfl, hp2, rfl, p, ws, _, "}", rfl, R2, hw, by omega, e3, fun H3 v3 R3 => nx_ ?_⟩
        refine ⟨_, rfl, q v H3 ((v1.tr v2).tr v3) (v3.dp hp2 (show tupD (.tuple bs) = true from htp) d2) ?_⟩
        have el : i + 1 + (bwD n bs).length + 1 = i + (([("{" : Str)] ++ bwD n bs) ++ [("}" : Str)]).length := by
          simp only [List.length_append, List.length_cons, List.length_nil]
          omega
        rw [el] at R3
        exact R3
theorem ok_takerows1 (T : Tp K w mg) (n : Nat) (ih : FnOk P w K mg base CX0 (2 * n + 26) T.f_takepart T.fd_takepart ["self", "kind"] (spR (spTpart K T.C_Reader) n)) : FnOk P w K mg base CX0 (2 * n + 27) T.f_takerows T.fd_takerows ["self", "last"] (spTrows K T.C_Reader n) := by
  refine T.D_takerows.ok sc_takerows (fun vs H Q E h => ?_) (fun cdv A outer s H vs Q E hr h => ?_)
  · obtain ⟨p, ws, i, last, rows, rest, rfl, _⟩ := h
    rfl
  · obtain ⟨p, ws, i, last, rows, rest, rfl, R, hw, hdr, hrest, hlast, hi6, hrd, htp, hwt, q⟩ := h
    have hu := hu_of hr
    have hlr : rows.length ≤ 10 ^ 6 := by have := wt_len rows; omega
    rw [six] at hlr
    refine ⟨_, (pss_cons (ps_set (i := 2) sc_takerows.nd rfl (.inl rfl) (pe_lst pa_nil))
  (pss_cons (ps_while PassesOwn.never (pt_cmpR op_ne (pe_meth0 (pv 0) T.cl_Reader T.m_peek (ok_peek T) (hr.mono (by omega)) T.b_peek .nil pass0) (pv 1) (nomark _))
  (pss_cons (ps_set (i := 3) sc_takerows.nd rfl (.inl rfl) (pe_meth (pv 0) T.cl_Reader T.m_takeif (ok_takeif T) (hr.mono (by omega)) T.b_takeif .nil pass0 (pa_cons (pe_cmpR (HD.op_in_dt T.d_PARTS) (pe_meth0 (pv 0) T.cl_Reader T.m_peek (ok_peek T) (hr.mono (by omega)) T.b_peek .nil pass0) (pe_gr (by rfl) T.c_PARTS) (by rfl)) pa_nil)))
  (pss_one (ps_expr (pe_bm PySem.F.plainAttrs_list PySem.F.slot_list_append PySem.F.type_list_append mt_append (pv 2) (pa_cons (pe_op op_catT (pe_tup (pa_cons (pv 3) pa_nil)) (pe_callTy call_tuple_of (by rfl) T.tuple (by decide +kernel) (pa_cons (pe_lc (own := [("kind", 4)]) (g := gName 4) (by rfl) sc_takerows.nd (pi_tup (pe_ix (HD.ix_dt T.d_PARTS) (pe_gr (by rfl) T.c_PARTS) (pv 3) (fun _ _ => rfl))) (blkOk_by (own := [("kind", 4)]) (N := ["self", "last", "rows", "word", "kind"]) (sc := defScope s_takerows) (by decide +kernel)) (fun _ _ _ _ _ => (pg_name (i := 4) sc_takerows.nd rfl (.inl rfl))) (fun _ _ _ _ _ => pts_nil) (fun _ _ _ _ _ => (pe_meth (pv 0) T.cl_Reader T.m_takepart ih (hr.mono (by omega)) T.b_takepart .nil pass0 (pa_cons (pv 4) pa_nil)))) pa_nil))) pa_nil))))))
  (pss_one (ps_ret (pe_callTy call_tuple_of (by rfl) T.tuple (by decide +kernel) (pa_cons (pv 2) pa_nil)))))), ?_⟩
    refine ⟨Nat.zero_le _, fun L nL => ?_⟩
    have s1 := same_upd (o := .lst []) nL
    have hL1 : (upd H L (.lst [])) L = some (.lst []) := upd_same
    show tSeq _ _ _ _ (upd H L (.lst []))
    generalize upd H L (.lst []) = H1 at s1 hL1 ⊢
    have eB : bwD n rows = rows.flatMap (rowW (bwD (n - 1))) := by
      cases n with
      | zero => rw [show rows = [] from hrd]; rfl
      | succ m => rfl
    rw [eB] at hdr q
    have lpre : ∀ k, ((rows.take k).flatMap (rowW (bwD (n - 1)))).length + ((rows.drop k).flatMap (rowW (bwD (n - 1)))).length = (rows.flatMap (rowW (bwD (n - 1)))).length := fun k => by
      rw [← List.length_append, ← List.flatMap_append, List.take_append_drop]
    have hdk : ∀ k, ws.drop (i + ((rows.take k).flatMap (rowW (bwD (n - 1)))).length) = (rows.drop k).flatMap (rowW (bwD (n - 1))) ++ rest := fun k => by
      refine drop_more ?_
      rw [hdr, ← List.append_assoc, ← List.flatMap_append, List.take_append_drop]
    refine ⟨fun m σ H2 => ∃ (k : Nat) (vs : List V) (y3 y4 : Option V), m = rows.length - k ∧ k ≤ rows.length ∧ σ = [some (.ref p), some (.str last), some (.ref L), y3, y4] ∧ VR p H H2 ∧ H2 L = some (.lst vs) ∧ DpAll K H2 vs (rows.take k) ∧ Rd H2 p T.C_Reader ws (i + ((rows.take k).flatMap (rowW (bwD (n - 1)))).length), ⟨_, 0, [], none, none, rfl, Nat.zero_le _, rfl, VR.of s1, hL1, .nil, R.same s1⟩, ?_⟩
    rintro m σ H2 ⟨k, vs, y3, y4, rfl, hk, rfl, v2, hL2, hvs, R2⟩
    obtain ⟨dx2, l2, hp2, hl2⟩ := R2.ex
    have hd2 := hdk k
    generalize ei : i + ((rows.take k).flatMap (rowW (bwD (n - 1)))).length = i2 at R2 hd2
    have lenv := dpAll_len hvs
    rw [List.length_take, Nat.min_eq_left hk] at lenv
    refine ⟨_, rfl, p, dx2, _, rfl, hp2, rfl, p, ws, i2, rfl, R2, hw, _, rfl, rfl, _, rfl, ?_⟩
    rw [es_str]
    by_cases hlt : k < rows.length
    · obtain ⟨m, rfl⟩ : ∃ m, n = m + 1 := by
        cases n with
        | zero => rw [show rows = [] from hrd] at hlt; exact absurd hlt (by simp)
        | succ m => exact ⟨m, rfl⟩
      rw [Nat.add_sub_cancel] at *
      obtain ⟨z, ks, ds, ⟨er, hkz, hkl, hbd, hcd⟩, hlf⟩ := hrd _ (List.getElem_mem hlt)
      have hwr := wt_mem (List.getElem_mem hlt)
      have ewr : wtD rows[k] = 4 + (z.length + 4 + wtAll ds) := by rw [er]; rfl
      rw [six] at hwt
      have htr : tupD rows[k] = true := tup_mem htp (List.getElem_mem hlt)
      have htds : tupAll ds = true := by rw [er] at htr; exact htr
      have eF : rowW (bwD m) rows[k] = z :: (ks.zip ds).flatMap fun q => partW (bwD m) q.1 q.2 := by rw [er, rowW_eq hkz]
      have hd3 : ws.drop i2 = z :: (((ks.zip ds).flatMap fun q => partW (bwD m) q.1 q.2) ++ ((rows.drop (k + 1)).flatMap (rowW (bwD m)) ++ rest)) := by
        rw [hd2, List.drop_eq_getElem_cons hlt, List.flatMap_cons, eF]
        simp only [List.append_assoc, List.cons_append]
      obtain ⟨e1, d1, i1⟩ := drop_head hd3
      have zne : z ≠ last := by
        have wn := word_not hkz
        rcases hlast with h | h
        · rw [h]; exact wn.1
        · rw [h]; exact wn.2.1
      rw [e1, decide_eq_false zne]
      refine ⟨fun σ' H' => ∃ (vs : List V) (y3 y4 : Option V), σ' = [some (.ref p), some (.str last), some (.ref L), y3, y4] ∧ VR p H H' ∧ H' L = some (.lst vs) ∧ DpAll K H' vs (rows.take (k + 1)) ∧ Rd H' p T.C_Reader ws (i + ((rows.take (k + 1)).flatMap (rowW (bwD m))).length), ?_, ?_⟩
      · rintro σ' H' ⟨vs, y3, y4, g1, g2, g3, g4, g5⟩
        exact ⟨_, by omega, k + 1, vs, y3, y4, rfl, hlt, g1, g2, g3, g4, g5⟩
      have mV := partsV_mem hkz
      refine ⟨_, rfl, p, dx2, _, rfl, hp2, rfl, _, rfl, p, dx2, _, rfl, hp2, rfl, p, ws, i2, rfl, R2, hw, z, by rw [e1], rfl, ?_⟩
      refine ⟨p, ws, i2, ?_, R2, hw, by omega, fun H3 v3 R3 => ?_⟩
      · show [V.ref p, V.bl (decide (z ∈ partsV.map (·.1)))] = _
        rw [decide_eq_true (List.mem_map.mpr ⟨_, mV, rfl⟩)]
      rw [e1]
      have hL3 : H3 L = some (.lst vs) := v3.v _ _ hL2 (fun e => by rw [e, hp2] at hL2; cases hL2)
      refine ⟨_, rfl, .inl ⟨rfl, _, sl hL3⟩, _, rfl, by show 1 ≤ sizeLine; decide, fun t1 nt1 => ?_⟩
      have s4 := same_upd (o := .tup [V.str z]) nt1
      have ht1 : (upd H3 t1 (.tup [V.str z])) t1 = some (.tup [V.str z]) := upd_same
      generalize upd H3 t1 (.tup [V.str z]) = H4 at s4 ht1 ⊢
      refine ⟨_, rfl, _, mV, rfl, rfl, fun t ht => ⟨t, rfl, ⟨_, ht H4⟩, fun D nD => ?_⟩⟩
      have R4 := R3.same s4
      have hlz : (ks.zip ds).length = ks.length := by rw [List.length_zip]; omega
      refine lc_it (walk_tup (xs := ks.map V.str)) (fun j H5 => ∃ us, VR p H4 H5 ∧ H5 D = some (.lst us) ∧ DpAll K H5 us (ds.take j) ∧ Rd H5 p T.C_Reader ws (i2 + 1 + (((ks.zip ds).take j).flatMap fun q => partW (bwD m) q.1 q.2).length)) ⟨[], VR.of (same_upd nD), upd_same, .nil, R4.same (same_upd nD)⟩ (fun j H5 _ g => ht H5) ?_ ?_
      · rintro j x H5z H5 hj ⟨us, v5, hD5, hus, R5⟩ ⟨rfl, gx⟩
        rw [List.length_map] at hj
        rw [List.getElem?_map, List.getElem?_eq_getElem hj] at gx
        cases gx
        have hjd : j < ds.length := by omega
        have hjz : j < (ks.zip ds).length := by omega
        have ez : (ks.zip ds)[j] = (ks[j], ds[j]) := List.getElem_zip
        have hq : (ks[j], ds[j]) ∈ ks.zip ds := by rw [← ez]; exact List.getElem_mem hjz
        have tk : ((ks.zip ds).take (j + 1)).flatMap (fun q => partW (bwD m) q.1 q.2) = ((ks.zip ds).take j).flatMap (fun q => partW (bwD m) q.1 q.2) ++ partW (bwD m) ks[j] ds[j] := by
          rw [List.take_add_one, List.getElem?_eq_getElem hjz, List.flatMap_append, ez]
          show _ ++ (partW (bwD m) ks[j] ds[j] ++ []) = _
          rw [List.append_nil]
        have d5 : ws.drop (i2 + 1 + (((ks.zip ds).take j).flatMap fun q => partW (bwD m) q.1 q.2).length) = partW (bwD m) ks[j] ds[j] ++ (((ks.zip ds).drop (j + 1)).flatMap (fun q => partW (bwD m) q.1 q.2) ++ ((rows.drop (k + 1)).flatMap (rowW (bwD m)) ++ rest)) := by
          refine drop_more ?_
          rw [d1, ← List.append_assoc, ← List.append_assoc, ← tk, ← List.append_assoc, ← List.flatMap_append, List.take_append_drop, List.append_assoc]
        obtain ⟨dx5, l5, hp5, hl5⟩ := R5.ex
        have hwq := wt_mem (zip_mem2 hq)
        dsimp only at hwq
        have htq : tupD ds[j] = true := tup_mem htds (List.getElem_mem hjd)
        have hlus := dpAll_len hus
        rw [List.length_take] at hlus
        refine ⟨rfl, _, rfl, p, dx5, _, rfl, hp5, rfl, _, rfl, p, ws, _, ks[j], ds[j], _, rfl, R5, hw, d5, fun hb => ?_, fun hb => ⟨hlf _ hq hb, hcd _ hq hb, by rw [six]; omega⟩, fun v H6 v6 dv6 R6 => ?_⟩
        · obtain ⟨bs, eb, hp3⟩ := hbd _ hq hb
          dsimp only at eb
          rw [eb] at hwq htq
          refine ⟨bs, eb, hp3, htq, ?_⟩
          have : wtD (.tuple bs) = 4 + wtAll bs := rfl
          rw [six]
          omega
        · have hD6 : H6 D = some (.lst us) := v6.v _ _ hD5 (fun e => by rw [e, hp5] at hD5; cases hD5)
          have v46 := v5.tr v6
          refine ⟨us, hD6, small1000 (by have := kinds_len hkz; omega), us ++ [v], v46.own nD, upd_same, ?_, ?_⟩
          · rw [List.take_add_one, List.getElem?_eq_getElem hjd]
            refine dpAll_app ?_ (.cons ?_ .nil)
            · exact dpAll_keep (fun _ _ h => sqt_setl hD6 (v6.sqt hp5 h)) (tup_take htds j) hus
            · exact dp_keep (fun _ _ h => sqt_setl hD6 h) htq dv6
          · rw [tk, List.length_append, ← Nat.add_assoc]
            exact R4.own v46 R6 nD
      · rintro H5 ⟨us, v5, hD5, hus, R5⟩
        rw [List.length_map, hkl, List.take_length] at hus
        rw [List.length_map, ← hlz, List.take_length] at R5
        have hlus := dpAll_len hus
        have l3 := kinds_len hkz
        refine ⟨D, us, rfl, .inl ⟨sl hD5, fun t2 nt2 => ?_⟩⟩
        have s6 := same_upd (o := .tup us) nt2
        have ht2 : (upd H5 t2 (.tup us)) t2 = some (.tup us) := upd_same
        have hp4 : ∃ dx4 fs4, H4 p = some (.ins T.C_Reader dx4 fs4) := let ⟨dx, l, h, _⟩ := R4.ex; ⟨_, _, h⟩
        obtain ⟨dx4, fs4, hp4⟩ := hp4
        have ht5 : SqT K H5 t1 [V.str z] := v5.sqt hp4 (stt ht1)
        refine ⟨t1, t2, [V.str z], us, rfl, rfl, s6.sqt ht5, stt ht2, List.cons_ne_nil _ _, by show 1 + us.length ≤ sizeLine; exact Nat.le_of_lt (small1000 (by omega)), fun h => ?_, fun _ t7 nt7 => ?_⟩
        · exfalso
          rw [h] at hlus
          have : ks = [] := List.eq_nil_of_length_eq_zero (by rw [hkl]; exact hlus.symm)
          exact kinds_ne hkz this
        have s7 := same_upd (o := .tup ([V.str z] ++ us)) nt7
        have ht7 : (upd (upd H5 t2 (.tup us)) t7 (.tup ([V.str z] ++ us))) t7 = some (.tup ([V.str z] ++ us)) := upd_same
        have s57 := s6.trans s7
        generalize upd (upd H5 t2 (.tup us)) t7 (.tup ([V.str z] ++ us)) = H7 at ht7 s57 ⊢
        have v37 := (VR.of s4).tr (v5.trans s57)
        have hp3 : ∃ dx3 fs3, H3 p = some (.ins T.C_Reader dx3 fs3) := let ⟨dx, l, h, _⟩ := R3.ex; ⟨_, _, h⟩
        obtain ⟨dx3, fs3, hp3⟩ := hp3
        have v27 := v3.tr v37
        have hL7 : H7 L = some (.lst vs) := v37.v _ _ hL3 (fun e => by rw [e, hp3] at hL3; cases hL3)
        have R7 := R5.same s57
        have dr : Dp K H7 (.ref t7) rows[k] := by
          rw [er]
          exact .tup (stt ht7) (.cons (.str z) (s57.dpAll hus))
        refine ⟨L, _, _, rfl, rfl, hL7, sz6 (by omega), vs ++ [.ref t7], _, _, rfl, (v2.tr v27).own nL, upd_same, ?_, ?_⟩
        · rw [List.take_add_one, List.getElem?_eq_getElem hlt]
          refine dpAll_app ?_ (.cons ?_ .nil)
          · exact dpAll_keep (fun _ _ h => sqt_setl hL7 (v27.sqt hp2 h)) (tup_take htp k) hvs
          · exact dp_keep (fun _ _ h => sqt_setl hL7 h) htr dr
        · have el : i2 + 1 + ((ks.zip ds).flatMap fun q => partW (bwD m) q.1 q.2).length = i + ((rows.take (k + 1)).flatMap (rowW (bwD m))).length := by
            rw [← ei, List.take_add_one, List.getElem?_eq_getElem hlt, List.flatMap_append, List.length_append]
            show _ = i + (_ + (rowW (bwD m) rows[k] ++ []).length)
            rw [List.append_nil, eF, List.length_cons]
            omega
          rw [← el]
          exact R.own (v2.tr v27) R7 nL
    · have ek : k = rows.length := by omega
      subst ek
      rw [List.drop_length, List.flatMap_nil, List.nil_append] at hd2
      have e1 : ws.getD i2 "" = last := by
        rw [← hrest, ← hd2, List.getD_eq_getElem?_getD, List.getD_eq_getElem?_getD, List.getElem?_drop, Nat.add_zero]
      rw [e1, decide_eq_true rfl]
      rw [List.take_length] at hvs ei
      refine ⟨_, rfl, L, _, rfl, .inl ⟨sl hL2, fun t nt => ?_⟩⟩
      have s3 := same_upd (o := .tup vs) nt
      refine q (.ref t) _ (v2.trans s3) (.tup (stt upd_same) (s3.dpAll hvs)) ?_
      rw [ei]
      exact R2.same s3
theorem ok_takerows (T : Tp K w mg) : ∀ n, FnOk P w K mg base CX0 (2 * n + 27) T.f_takerows T.fd_takerows ["self", "last"] (spTrows K T.C_Reader n)
  | 0 => ok_takerows1 T 0 ⟨fun _ _ _ _ h => h.elim, fun _ _ _ _ _ _ _ _ _ _ _ _ _ h => h.elim⟩
  | n + 1 => by
    have h := ok_takepart (L := 2 * n + 27) T (by omega) (ok_takerows T n)
    exact ok_takerows1 T (n + 1) (by
      have e : 2 * (n + 1) + 26 = 2 * n + 27 + 1 := by omega
      rw [e]
      exact h)
end
end TP
namespace TP
open PySem PySem.Spec PyProof.Rows L2 HX HB HG HU HH HD HS HV HQ HK HN HJ TL HM
def rSplit : V → List V → Hp → VK → Prop := fun x xs H Q => ∃ a b, x = .str a ∧ xs = [.str b] ∧ (b.length == 0) = false ∧ a.length + 2 ≤ sizeLine ∧ rNewStrs (Txt.split a b) H Q
theorem as_iList {X : Cx} {K : PySem.W.Frag} {tg e : Expr} {tl : TE} (h : PI X tg e (iList K tl)) : PI X tg e (iList K tl) := h
theorem spl_sum (s : Nat) : ∀ (l acc : List Nat), ((spl [s] 0 acc l).map fun r => r.length + 1).sum = acc.length + l.length + 1
  | [], acc => by rw [spl_nil]; simp
  | c :: r, acc => by
    rw [spl_one]
    split
    · rw [List.map_cons, List.sum_cons, spl_sum s r []]
      simp only [List.length_nil, List.length_cons]
      omega
    · rw [spl_sum s r (acc ++ [c])]
      simp only [List.length_append, List.length_cons, List.length_nil]
      omega
theorem len_sum1 : ∀ l : List (List Nat), l.length ≤ (l.map fun r => r.length + 1).sum
  | [] => Nat.le_refl _
  | x :: l => by have := len_sum1 l; rw [List.map_cons, List.sum_cons, List.length_cons]; omega
theorem mem_sum1 : ∀ {l : List (List Nat)} {x : List Nat}, x ∈ l → x.length + 1 ≤ (l.map fun r => r.length + 1).sum
  | y :: l, x, h => by
    rw [List.map_cons, List.sum_cons]
    rcases List.mem_cons.mp h with rfl | h
    · omega
    · have := mem_sum1 h; omega
theorem words_cap (rows : List (List Nat)) : (rows.flatMap fun row => (spl [32] 0 [] row).filter ne0).length ≤ (rows.map fun r => r.length + 1).sum := by
  induction rows with
  | nil => simp
  | cons r rows ih =>
    rw [List.flatMap_cons, List.length_append, List.map_cons, List.sum_cons]
    have h1 := List.length_filter_le ne0 (spl [32] 0 [] r)
    have h2 := len_sum1 (spl [32] 0 [] r)
    rw [spl_sum] at h2
    simp only [List.length_nil] at h2
    omega
theorem take_sum1 : ∀ (l : List (List Nat)) (i : Nat), ((l.take i).map fun r => r.length + 1).sum ≤ (l.map fun r => r.length + 1).sum
  | [], i => by simp
  | x :: l, 0 => by simp
  | x :: l, i + 1 => by
    have := take_sum1 l i
    rw [List.take_succ_cons, List.map_cons, List.sum_cons, List.map_cons, List.sum_cons]
    omega
section
variable {P : Program} {w : World} {K : PySem.W.Frag} {mg : Str → Option Value} {base : Heap}
def spRinit (C : Addr) : Sp := fun vs H Q _ => ∃ (p dx : Addr) (text : Str), vs = [.ref p, .str text] ∧ H p = some (.ins C dx []) ∧ text.length ≤ 10 ^ 6 ∧ ∀ H', V1 p H H' → Rd H' p C (wordsOf text) 0 → Q .non H'
theorem ok_rinit (T : Tp K w mg) : FnOk P w K mg base CX0 1 T.f_rinit T.fd_rinit ["self", "text"] (spRinit T.C_Reader) := by
  refine T.D_rinit.ok sc_rinit (fun vs H Q E h => ?_) (fun cdv A outer s H vs Q E hr h => ?_)
  · obtain ⟨p, dx, text, rfl, _⟩ := h
    rfl
  · obtain ⟨p, dx, text, rfl, hp, hlen, q⟩ := h
    have hu := hu_of hr
    refine ⟨_, (pss_cons (ps_fld (pv 0) (pe_lc2 (own := [("row", 2), ("word", 3)]) (vs1 := [3]) (g := gName 2) (g1 := gName 3) (by rfl) sc_rinit.nd (pi_list (pe_bm PySem.F.plainAttrs_str PySem.F.slot_str_split PySem.F.type_str_split mt_split (pv 1) (pa_cons pe_str pa_nil))) (blkOk_by (own := [("row", 2), ("word", 3)]) (N := ["self", "text", "row", "word"]) (sc := defScope s_rinit) (by decide +kernel)) (by decide) (fun _ _ _ _ _ => (pg_name (i := 2) sc_rinit.nd rfl (.inl rfl))) (fun _ _ _ _ _ => pts_nil) (fun _ _ _ _ _ => (as_iList (K := K) (tl := tBM K "str" rSplit (tVar 2) (tCons (tC (V.str " ")) tNil)) (pi_list (pe_bm PySem.F.plainAttrs_str PySem.F.slot_str_split PySem.F.type_str_split mt_split (pv 2) (pa_cons pe_str pa_nil))))) (fun _ _ _ _ _ => (pg_name (i := 3) sc_rinit.nd rfl (.inl rfl))) (fun _ _ _ _ _ => (pts_one (pt_cmpR op_ne (pv 3) pe_str (nomark _)))) (fun _ _ _ _ _ => (pv 3))) rfl)
  (pss_one (ps_fld (pv 0) pe_int rfl))), ?_⟩
    rw [six] at hlen
    have hlen2 : (tl text).length ≤ 1000000 := by rw [← len_tl]; exact hlen
    -- the rows, and their words
    obtain ⟨rowsC, eR⟩ : ∃ r, r = spl [10] 0 [] (tl text) := ⟨_, rfl⟩
    have eS : Txt.split text "\n" = rowsC.map SX.S := by
      rw [eR]
      exact SX.split_S (a := tl text) (b := [10]) (by simp) (by decide)
    have eW : wordsOf text = (rowsC.flatMap fun row => (spl [32] 0 [] row).filter ne0).map SX.S := by
      unfold wordsOf
      rw [eR, scn_spl (tl text) [] [] [] (fun x => by rw [List.nil_append, List.nil_append])]
      rfl
    have hsum : (rowsC.map fun r => r.length + 1).sum ≤ 1000001 := by
      rw [eR, spl_sum]
      simp only [List.length_nil]
      omega
    have hcap : ∀ i, ((rowsC.take i).flatMap fun row => (spl [32] 0 [] row).filter ne0).length ≤ 1000001 := fun i => by
      have h1 := words_cap (rowsC.take i)
      have h2 := take_sum1 rowsC i
      omega
    have hrow : ∀ r ∈ rowsC, r.length ≤ 1000000 := fun r h => by have := mem_sum1 h; omega
    show tSeq _ _ _ _ H
    refine ⟨_, rfl, rfl, text, "\n", rfl, rfl, by rfl, Nat.le_of_lt (sz6 (by omega)), fun pl npl => ⟨pl, rfl, ⟨_, sl upd_same⟩, fun L nL => ?_⟩⟩
    rw [eS] at nL ⊢
    have s1 := same_upd (o := .lst ((rowsC.map SX.S).map V.str)) npl
    have hpl : (upd H pl (.lst ((rowsC.map SX.S).map V.str))) pl = some (.lst ((rowsC.map SX.S).map V.str)) := upd_same
    generalize upd H pl (.lst ((rowsC.map SX.S).map V.str)) = H1 at s1 hpl nL ⊢
    refine walk2 (walk_list (xs := (rowsC.map SX.S).map V.str)) (fun i H2 => Same H1 H2 ∧ H2 L = some (.lst ((((rowsC.take i).flatMap fun row => (spl [32] 0 [] row).filter ne0).map SX.S).map V.str))) ⟨same_upd nL, upd_same⟩ (fun i H2 _ g => sl (g.1 _ _ hpl)) ?_ ?_
    · rintro i x H2 H3 hi ⟨sm, hL⟩ ⟨rfl, g1⟩
      rw [List.length_map, List.length_map] at hi
      rw [List.getElem?_map, List.getElem?_map, List.getElem?_eq_getElem hi] at g1
      cases g1
      have hr1 := hrow _ (List.getElem_mem hi)
      have eT : Txt.split (SX.S rowsC[i]) " " = (spl [32] 0 [] rowsC[i]).map SX.S := SX.split_S (a := rowsC[i]) (b := [32]) (by simp) (by decide)
      refine ⟨rfl, _, rfl, rfl, SX.S rowsC[i], " ", rfl, rfl, by rfl, Nat.le_of_lt (sz6 (by rw [SX.S_len]; omega)), fun rp nrp => ⟨rp, rfl, ⟨_, sl upd_same⟩, ?_⟩⟩
      rw [eT]
      have s4 := same_upd (o := .lst (((spl [32] 0 [] rowsC[i]).map SX.S).map V.str)) nrp
      have hrp : (upd H3 rp (.lst (((spl [32] 0 [] rowsC[i]).map SX.S).map V.str))) rp = some (.lst (((spl [32] 0 [] rowsC[i]).map SX.S).map V.str)) := upd_same
      generalize upd H3 rp (.lst (((spl [32] 0 [] rowsC[i]).map SX.S).map V.str)) = H4 at s4 hrp ⊢
      have hL4 := s4 _ _ hL
      have nRL : L ≠ rp := fun e => by rw [e, nrp] at hL; cases hL
      have tk : ((rowsC.take (i + 1)).flatMap fun row => (spl [32] 0 [] row).filter ne0) = ((rowsC.take i).flatMap fun row => (spl [32] 0 [] row).filter ne0) ++ (spl [32] 0 [] rowsC[i]).filter ne0 := by
        rw [List.take_add_one, List.getElem?_eq_getElem hi, List.flatMap_append]
        show _ ++ ((spl [32] 0 [] rowsC[i]).filter ne0 ++ []) = _
        rw [List.append_nil]
      have cap := hcap (i + 1)
      rw [tk, List.length_append] at cap
      refine walk2 (walk_list (xs := ((spl [32] 0 [] rowsC[i]).map SX.S).map V.str)) (fun j H5 => Same H1 H5 ∧ H5 rp = some (.lst (((spl [32] 0 [] rowsC[i]).map SX.S).map V.str)) ∧ H5 L = some (.lst (((((rowsC.take i).flatMap fun row => (spl [32] 0 [] row).filter ne0) ++ ((spl [32] 0 [] rowsC[i]).take j).filter ne0).map SX.S).map V.str))) ⟨sm.trans s4, hrp, ?_⟩ (fun j H5 _ g => sl g.2.1) ?_ ?_
      · rw [List.take_zero, List.filter_nil, List.append_nil]; exact hL4
      · rintro j y H5 H6 hj ⟨sm5, hrp5, hL5⟩ ⟨rfl, g2⟩
        rw [List.length_map, List.length_map] at hj
        rw [List.getElem?_map, List.getElem?_map, List.getElem?_eq_getElem hj] at g2
        cases g2
        have tj : ((spl [32] 0 [] rowsC[i]).take (j + 1)).filter ne0 = ((spl [32] 0 [] rowsC[i]).take j).filter ne0 ++ (if ne0 (spl [32] 0 [] rowsC[i])[j] = true then [(spl [32] 0 [] rowsC[i])[j]] else []) := by
          rw [List.take_add_one, List.getElem?_eq_getElem hj, List.filter_append]
          congr 1
          show [(spl [32] 0 [] rowsC[i])[j]].filter ne0 = _
          cases e : ne0 (spl [32] 0 [] rowsC[i])[j] <;> simp [e]
        have eN : (!decide (V.str (SX.S (spl [32] 0 [] rowsC[i])[j]) = V.str "")) = ne0 (spl [32] 0 [] rowsC[i])[j] := by
          rw [es_str]
          unfold ne0
          rw [decide_not]
          congr 1
          exact decide_eq_decide.mpr ⟨fun h => SX.S_inj h, fun h => by rw [h]; rfl⟩
        refine ⟨rfl, _, rfl, rfl, _, rfl, ?_⟩
        rw [eN]
        have capj : (((rowsC.take i).flatMap fun row => (spl [32] 0 [] row).filter ne0) ++ ((spl [32] 0 [] rowsC[i]).take j).filter ne0).length ≤ 1000001 := by
          rw [List.length_append]
          have : (((spl [32] 0 [] rowsC[i]).take j).filter ne0).length ≤ ((spl [32] 0 [] rowsC[i]).filter ne0).length := ((List.take_sublist j _).filter ne0).length_le
          omega
        cases e0 : ne0 (spl [32] 0 [] rowsC[i])[j] with
        | true =>
          refine iteT ⟨_, rfl, _, hL5, by rw [List.length_map, List.length_map]; exact sz6 (by omega), sm5.own nL, ?_, ?_⟩
          · rw [upd_ne nRL.symm]; exact hrp5
          · rw [upd_same, tj, e0, if_pos rfl, ← List.append_assoc]
            simp only [List.map_append, List.map_cons, List.map_nil]
        | false =>
          refine iteF ⟨sm5, hrp5, ?_⟩
          rw [tj, e0, if_neg Bool.false_ne_true, List.append_nil]
          exact hL5
      · rintro H5 ⟨sm5, hrp5, hL5⟩
        rw [List.length_map, List.length_map, List.take_length] at hL5
        refine ⟨sm5, ?_⟩
        rw [tk]
        exact hL5
    · rintro H2 ⟨sm, hL⟩
      rw [List.length_map, List.length_map, List.take_length, ← eW] at hL
      have s02 := s1.trans sm
      refine ⟨_, rfl, p, _, dx, _, rfl, s02 _ _ hp, T.cl_Reader, T.na_Reader_left, by decide, ?_⟩
      refine ⟨_, rfl, p, _, dx, _, rfl, upd_same, T.cl_Reader, T.na_Reader_at, by show 1 < 1000; decide, ?_⟩
      have nLp : L ≠ p := fun e => by rw [e, s1 _ _ hp] at nL; cases nL
      refine q _ (((V1.of s02).set).set) ⟨dx, L, upd_same, ?_⟩
      rw [upd_ne nLp, upd_ne nLp]
      exact hL
end
end TP
namespace TP
open PySem PySem.Spec PyProof.Rows L2 HX HB HG HU HH HD HS HV HQ HK HN HJ TL HM
/-! ### heads -/
inductive Hd where
  | cell (z : Str) (v : Int)
  | lock (z : Str)
  | chan (z : Str) (v : Int)
def hdW : Hd → List Str
  | .cell z v => ["cell", z, intS v]
  | .lock z => ["lock", z]
  | .chan z v => ["channel", z, intS v]
def isCell : Hd → Option (Str × Int)
  | .cell z v => some (z, v)
  | _ => none
def isLock : Hd → Option Str
  | .lock z => some z
  | _ => none
def isChan : Hd → Option (Str × Int)
  | .chan z v => some (z, v)
  | _ => none
def hdName : Hd → Str
  | .cell z _ => z
  | .lock z => z
  | .chan z _ => z
abbrev cellsOf (hds : List Hd) : List (Str × Int) := hds.filterMap isCell
abbrev locksOf (hds : List Hd) : List Str := hds.filterMap isLock
abbrev chansOf (hds : List Hd) : List (Str × Int) := hds.filterMap isChan
theorem put_newI {acc : List (Str × Int)} {p : Str × Int} (h : p.1 ∉ acc.map (·.1)) : putK (dI acc) (Sum.inr p.1 : Key) (.int p.2) = dI (acc ++ [p]) := by
  unfold putK
  rw [if_neg ?_]
  · unfold dI; rw [List.map_append]; rfl
  · rw [List.any_eq_true]
    rintro ⟨kv, hkv, he⟩
    unfold dI at hkv
    obtain ⟨q, hq, rfl⟩ := List.mem_map.mp hkv
    have he : (Sum.inr q.1 : Key) = Sum.inr p.1 := of_decide_eq_true he
    exact h (Sum.inr.inj he ▸ List.mem_map_of_mem hq)
def hdK : Hd → Str
  | .cell _ _ => "cell"
  | .lock _ => "lock"
  | .chan _ _ => "channel"
def hdM : Hd → List Str
  | .cell _ v => [intS v]
  | .lock _ => []
  | .chan _ v => [intS v]
theorem hdW_eq (h : Hd) : hdW h = hdK h :: hdName h :: hdM h := by cases h <;> rfl
theorem heads_in (s : Str) : inV (.str s) [.str "cell", .str "lock", .str "channel"] = decide (s = "cell" ∨ s = "lock" ∨ s = "channel") := by
  show (eqV (.str "cell") (.str s) || (eqV (.str "lock") (.str s) || (eqV (.str "channel") (.str s) || false))) = _
  simp only [eqV, Bool.or_false, Bool.decide_or]
  have e : ∀ z : Str, (z == s) = decide (s = z) := fun z => by
    by_cases h : s = z
    · subst h; simp
    · rw [decide_eq_false h]; exact beq_eq_false_iff_ne.mpr (Ne.symm h)
  rw [e, e, e]
theorem hdK_in (h : Hd) : hdK h = "cell" ∨ hdK h = "lock" ∨ hdK h = "channel" := by cases h <;> simp [hdK]
theorem bw_first {n : Nat} {rows : List PyData} (h : rowsRd n rows) : ∀ z r, bwD n rows = z :: r → ¬ (z = "cell" ∨ z = "lock" ∨ z = "channel") := by
  intro z r e
  cases n with
  | zero => cases e
  | succ n =>
    cases rows with
    | nil => cases e
    | cons x xs =>
      obtain ⟨y, ks, ds, R, _⟩ := h x (List.mem_cons_self ..)
      have e2 : rowW (bwD n) x ++ xs.flatMap (rowW (bwD n)) = z :: r := by rw [← List.flatMap_cons]; exact e
      rw [R.row, rowW_eq R.kinds, List.cons_append] at e2
      injection e2 with e3 _
      rw [← e3]
      have := word_not R.kinds
      rintro (h | h | h)
      · exact this.2.2.1 h
      · exact this.2.2.2.1 h
      · exact this.2.2.2.2 h
theorem filt_take {α β : Type} {f : α → Option β} {xs : List α} {i : Nat} (hi : i < xs.length) : (xs.take (i + 1)).filterMap f = (xs.take i).filterMap f ++ (f xs[i]).toList := by
  rw [List.take_add_one, List.getElem?_eq_getElem hi, List.filterMap_append]
  show _ ++ [xs[i]].filterMap f = _
  simp only [List.filterMap_cons, List.filterMap_nil]
  cases f xs[i] <;> rfl
theorem filt_le {α β : Type} {f : α → Option β} (xs : List α) (i : Nat) : ((xs.take i).filterMap f).length ≤ (xs.filterMap f).length := ((List.take_sublist i xs).filterMap f).length_le
theorem sz_at {hds : List Hd} {f : Hd → Option (Str × Int)} {l u : Int} (S : Sz (hds.filterMap f) l u) {i : Nat} (hi : i < hds.length) {q : Str × Int} (e : f hds[i] = some q) : isNameL q.1 = true ∧ l ≤ q.2 ∧ q.2 ≤ u ∧ q.1 ∉ ((hds.take i).filterMap f).map (·.1) := by
  have hm : q ∈ hds.filterMap f := List.mem_filterMap.mpr ⟨_, List.getElem_mem hi, e⟩
  refine ⟨S.names q hm, (S.rng q hm).1, (S.rng q hm).2, fun h => ?_⟩
  have e2 : (hds.take (i + 1)).filterMap f = (hds.take i).filterMap f ++ [q] := by rw [filt_take hi, e]; rfl
  have nd : (((hds.take (i + 1)).filterMap f).map (·.1)).Nodup := List.Sublist.nodup (((List.take_sublist (i + 1) hds).filterMap f).map _) S.nd
  rw [e2, List.map_append, List.nodup_append] at nd
  exact nd.2.2 _ h _ (List.mem_singleton.mpr rfl) rfl
theorem val_none {z : Str} {cs : List (Str × Int)} (h : z ∉ cs.map (·.1)) : valV (dI cs) (Sum.inr z : Key) = none := by
  unfold valV
  have e : (dI cs).find? (fun kv => decide (kv.1 = (Sum.inr z : Key))) = none := List.find?_eq_none.mpr fun kv hkv => by
    unfold dI at hkv
    obtain ⟨q, hq, rfl⟩ := List.mem_map.mp hkv
    intro he
    exact h (Sum.inr.inj (of_decide_eq_true he) ▸ List.mem_map_of_mem hq)
  rw [e]
  rfl
section
variable {P : Program} {w : World} {K : PySem.W.Frag} {mg : Str → Option Value} {base : Heap}
def spRead (K : PySem.W.Frag) (C : Addr) : Sp := fun vs H Q _ => ∃ (text : Str) (hds : List Hd) (rows : List PyData), vs = [.str text] ∧ text.length ≤ 10 ^ 6 ∧ wordsOf text = hds.flatMap hdW ++ bwD 12 rows ∧ (wordsOf text).length ≤ 10 ^ 6 ∧
  Sz (cellsOf hds) (-99) 99 ∧ locksD (locksOf hds) = true ∧ (∀ z ∈ locksOf hds, isNameL z = true) ∧ (locksOf hds).length ≤ 4 ∧ Sz (chansOf hds) 1 4 ∧ Rt2 ((cellsOf hds).map (·.1)) (locksOf hds) ((chansOf hds).map (·.1)) rows ∧ rowsRd 12 rows ∧ wtAll rows ≤ 10 ^ 6 ∧
  ∀ p H', Same H H' → Pf K H H' p C (cellsOf hds) (locksOf hds) (chansOf hds) rows (placesD 22 rows []) → Q (.ref p) H'
theorem ok_readprog (T : Tp K w mg) : FnOk P w K mg base CX0 60 T.f_readprog T.fd_readprog ["text"] (spRead K T.C_Program) := by
  refine T.D_readprog.F.ok sc_readprog (fun vs H Q E h => ?_) (fun cdv A outer s H vs Q E hr h => ?_)
  · obtain ⟨text, hds, rows, rfl, _⟩ := h
    rfl
  · obtain ⟨text, hds, rows, rfl, hlen, hws, hwl, S1, hlk, hll, lf, S2, R, hrd, hwt, q⟩ := h
    have hu := hu_of hr
    refine ⟨_, (pss_cons (ps_set (i := 1) sc_readprog.nd rfl (.inl rfl) (pe_make T.mk_Reader (ok_rinit T) (hr.mono (by omega)) (by rfl) T.gC_Reader T.b_rinit .nil pass0 (pa_cons (pv 0) pa_nil)))
  (pss_cons (ps_asg (pe_tup (pa_cons pe_dnewK (pa_cons (pe_lst pa_nil) (pa_cons pe_dnewK (pa_cons pe_bl pa_nil))))) (pg_tup rfl (pgs_cons (pg_name (i := 2) sc_readprog.nd rfl (.inl rfl)) (pgs_cons (pg_name (i := 3) sc_readprog.nd rfl (.inl rfl)) (pgs_cons (pg_name (i := 4) sc_readprog.nd rfl (.inl rfl)) (pgs_cons (pg_name (i := 5) sc_readprog.nd rfl (.inl rfl)) pgs_nil))))))
  (pss_cons (ps_while PassesOwn.never (pt_cmpR op_in_seq (pe_meth0 (pv 1) T.cl_Reader T.m_peek (ok_peek T) (hr.mono (by omega)) T.b_peek .nil pass0) (pe_tup (pa_cons pe_str (pa_cons pe_str (pa_cons pe_str pa_nil)))) (by rfl))
  (pss_cons (ps_set (i := 6) sc_readprog.nd rfl (.inl rfl) (pe_meth (pv 1) T.cl_Reader T.m_takeif (ok_takeif T) (hr.mono (by omega)) T.b_takeif .nil pass0 (pa_cons pe_bl pa_nil)))
  (pss_cons (ps_set (i := 7) sc_readprog.nd rfl (.inl rfl) (pe_meth0 (pv 1) T.cl_Reader T.m_takename (ok_takename T) (hr.mono (by omega)) T.b_takename .nil pass0))
  (pss_one (ps_if (pt_cmpR op_eq (pv 6) pe_str (nomark _))
  (pss_one (ps_expr (pe_bm PySem.F.plainAttrs_list PySem.F.slot_list_append PySem.F.type_list_append mt_append (pv 3) (pa_cons (pv 7) pa_nil))))
  (pss_cons (ps_set (i := 8) sc_readprog.nd rfl (.inl rfl) (pe_ifExp (pt_cmpR op_eq (pv 6) pe_str (nomark _)) (pv 2) (pv 4)))
  (pss_cons (ps_set (i := 5) sc_readprog.nd rfl (.inl rfl) (pe_or (pv 5) (pe_one (pe_cmp (pc_din hu (pv 7) (pv 8))))))
  (pss_one (ps_dput hu (pv 8) (pv 7) (pe_meth0 (pv 1) T.cl_Reader T.m_takenum (ok_takenum T) (hr.mono (by omega)) T.b_takenum .nil pass0) rfl)))))))))
  (pss_cons (ps_set (i := 9) sc_readprog.nd rfl (.inl rfl) (pe_meth (pv 1) T.cl_Reader T.m_takerows (ok_takerows T 12) (hr.mono (by omega)) T.b_takerows .nil pass0 (pa_cons pe_str pa_nil)))
  (pss_cons (ps_if (pt_val (pv 5))
  (pss_one ps_never)
  pss_nil)
  (pss_one (ps_ret (pe_makeK T.mk_Program (ok_prog T 22 (by decide)) (hr.mono (by omega)) (by rfl) T.gC_Program (kb_prog T) passN (pa_cons (pv 9) pa_nil) (pk_cons (pv 2) (pk_cons (pv 3) (pk_cons (pv 4) pk_nil))))))))))), ?_⟩
    show tSeq _ _ _ _ H
    refine ⟨_, rfl, fun p dx np ndx npd => ?_⟩
    refine ⟨p, dx, text, rfl, upd_same, hlen, fun H1 v1 R1 => ⟨rfl, ?_⟩⟩
    have s1 : Same H H1 := Same.V1 np ndx v1
    refine fun C nC => ?_
    have sC := same_upd (o := .dK []) nC
    have hC : (upd H1 C (.dK [])) C = some (.dK (dI [])) := upd_same
    generalize upd H1 C (.dK []) = H2 at sC hC ⊢
    refine ⟨Nat.zero_le _, fun L nL => ?_⟩
    have sL := same_upd (o := .lst []) nL
    have hL : (upd H2 L (.lst [])) L = some (.lst (([] : List Str).map V.str)) := upd_same
    generalize upd H2 L (.lst []) = H3 at sL hL ⊢
    refine fun Ch nCh => ?_
    have sCh := same_upd (o := .dK []) nCh
    have hCh : (upd H3 Ch (.dK [])) Ch = some (.dK (dI [])) := upd_same
    generalize upd H3 Ch (.dK []) = H4 at sCh hCh ⊢
    refine ⟨by show 4 ≤ sizeLine; decide, fun t nt => ?_⟩
    have st := same_upd (o := .tup [.ref C, .ref L, .ref Ch, .bl false]) nt
    have ht : (upd H4 t (.tup [.ref C, .ref L, .ref Ch, .bl false])) t = some (.tup [.ref C, .ref L, .ref Ch, .bl false]) := upd_same
    generalize upd H4 t (.tup [.ref C, .ref L, .ref Ch, .bl false]) = H5 at st ht ⊢
    refine ⟨t, _, rfl, stt ht, rfl, _, _, rfl, _, _, rfl, _, _, rfl, _, _, rfl, rfl, ?_⟩
    generalize ew : wordsOf text = ws at R1 hws hwl
    rw [six] at hwl hwt
    have fC : H1 C = none := nC
    have fL : H1 L = none := sC.free nL
    have fCh : H1 Ch = none := (sC.trans sL).free nCh
    have nCL : C ≠ L := fun e => by rw [← e, hC] at nL; cases nL
    have nCCh : C ≠ Ch := fun e => by rw [← e, sL _ _ hC] at nCh; cases nCh
    have nLCh : L ≠ Ch := fun e => by rw [← e, hL] at nCh; cases nCh
    have sA : Same H1 H5 := ((sC.trans sL).trans sCh).trans st
    have hC5 := st _ _ (sCh _ _ (sL _ _ hC))
    have hL5 := st _ _ (sCh _ _ hL)
    have hCh5 := st _ _ hCh
    clear nC sC hC nL sL hL nCh sCh hCh nt st ht
    have hdk : ∀ k, ws.drop ((hds.take k).flatMap hdW).length = (hds.drop k).flatMap hdW ++ bwD 12 rows := fun k => by
      have e : ws.drop 0 = (hds.take k).flatMap hdW ++ ((hds.drop k).flatMap hdW ++ bwD 12 rows) := by
        rw [List.drop_zero, hws, ← List.append_assoc, ← List.flatMap_append, List.take_append_drop]
      have := drop_more e
      rwa [Nat.zero_add] at this
    refine ⟨fun m σ H6 => ∃ (k : Nat) (y6 y7 y8 : Option V), m = hds.length - k ∧ k ≤ hds.length ∧ σ = [some (.str text), some (.ref p), some (.ref C), some (.ref L), some (.ref Ch), some (.bl false), y6, y7, y8, none] ∧ VR p H1 H6 ∧ H6 C = some (.dK (dI (cellsOf (hds.take k)))) ∧ H6 L = some (.lst ((locksOf (hds.take k)).map V.str)) ∧ H6 Ch = some (.dK (dI (chansOf (hds.take k)))) ∧ Rd H6 p T.C_Reader ws ((hds.take k).flatMap hdW).length, ⟨_, 0, none, none, none, rfl, Nat.zero_le _, rfl, VR.of sA, hC5, hL5, hCh5, R1.same sA⟩, ?_⟩
    clear hC5 hL5 hCh5 sA
    rintro m σ H6 ⟨k, y6, y7, y8, rfl, hk, rfl, v6, hC, hL, hCh, R6⟩
    obtain ⟨dx6, l6, hp6, hl6⟩ := R6.ex
    have hd6 := hdk k
    generalize ei : ((hds.take k).flatMap hdW).length = i at R6 hd6
    refine ⟨_, rfl, p, dx6, _, rfl, hp6, rfl, p, ws, i, rfl, R6, by rw [six]; exact hwl, by show 3 ≤ sizeLine; decide, fun t2 nt2 => ?_⟩
    have s7 := same_upd (o := .tup [.str "cell", .str "lock", .str "channel"]) nt2
    have ht2 : (upd H6 t2 (.tup [.str "cell", .str "lock", .str "channel"])) t2 = some (.tup [.str "cell", .str "lock", .str "channel"]) := upd_same
    generalize upd H6 t2 (.tup [.str "cell", .str "lock", .str "channel"]) = H7 at s7 ht2 ⊢
    refine ⟨_, _, rfl, .inr (stt ht2), rfl, rfl, ?_⟩
    rw [if_neg Bool.false_ne_true, heads_in]
    refine ⟨_, rfl, ?_⟩
    have hC := s7 _ _ hC
    have hL := s7 _ _ hL
    have hCh := s7 _ _ hCh
    have v7 := v6.trans s7
    have R7 := R6.same s7
    have hp7 := s7 _ _ hp6
    clear hp6 hl6 R6 v6 ht2 nt2
    by_cases hlt : k < hds.length
    · have hd7 : ws.drop i = hdK hds[k] :: hdName hds[k] :: (hdM hds[k] ++ ((hds.drop (k + 1)).flatMap hdW ++ bwD 12 rows)) := by
        rw [hd6, List.drop_eq_getElem_cons hlt, List.flatMap_cons, hdW_eq]
        simp only [List.append_assoc, List.cons_append]
      obtain ⟨e1, d1, i1⟩ := drop_head hd7
      obtain ⟨e2, d2, i2⟩ := drop_head d1
      rw [e1, decide_eq_true (hdK_in _)]
      refine ⟨fun σ' H' => ∃ (y6 y7 y8 : Option V), σ' = [some (.str text), some (.ref p), some (.ref C), some (.ref L), some (.ref Ch), some (.bl false), y6, y7, y8, none] ∧ VR p H1 H' ∧ H' C = some (.dK (dI (cellsOf (hds.take (k + 1))))) ∧ H' L = some (.lst ((locksOf (hds.take (k + 1))).map V.str)) ∧ H' Ch = some (.dK (dI (chansOf (hds.take (k + 1))))) ∧ Rd H' p T.C_Reader ws ((hds.take (k + 1)).flatMap hdW).length, ?_, ?_⟩
      · rintro σ' H' ⟨y6, y7, y8, g1, g2⟩
        exact ⟨_, by omega, k + 1, y6, y7, y8, rfl, hlt, g1, g2⟩
      have eln : ((hds.take (k + 1)).flatMap hdW).length = i + (2 + (hdM hds[k]).length) := by
        rw [List.take_add_one, List.getElem?_eq_getElem hlt, List.flatMap_append, List.length_append, ei]
        show _ + (hdW hds[k] ++ []).length = _
        rw [List.append_nil, hdW_eq, List.length_cons, List.length_cons]
        omega
      have hnm : isNameL (hdName hds[k]) = true := by
        cases eh : hds[k] with
        | cell z v => exact (sz_at S1 hlt (q := (z, v)) (by rw [eh]; rfl)).1
        | chan z v => exact (sz_at S2 hlt (q := (z, v)) (by rw [eh]; rfl)).1
        | lock z => exact hll z (List.mem_filterMap.mpr ⟨_, List.getElem_mem hlt, by rw [eh]; rfl⟩)
      -- the kind
      refine ⟨_, rfl, p, dx6, _, rfl, hp7, rfl, p, ws, i, rfl, R7, by rw [six]; exact hwl, by rw [six]; omega, fun H8 v8 R8 => ?_⟩
      rw [e1]
      obtain ⟨dx8, l8, hp8, hl8⟩ := R8.ex
      -- the name
      refine ⟨_, rfl, p, dx8, _, rfl, hp8, rfl, p, ws, i + 1, _, rfl, R8, by rw [six]; exact hwl, by rw [six]; omega, e2, hnm, fun H9 v9 R9 => ?_⟩
      obtain ⟨dx9, l9, hp9, hl9⟩ := R9.ex
      have v79 := v8.tr v9
      have v19 := v7.tr v79
      have keep : ∀ {a : Addr} {o : HO}, H7 a = some o → (∀ C dx fs, o ≠ .ins C dx fs) → H9 a = some o := fun h z => v79.v _ _ h (fun e => by subst e; rw [hp7] at h; exact z _ _ _ (Option.some.inj h).symm)
      have hC := keep hC (by intro _ _ _ z; cases z)
      have hL := keep hL (by intro _ _ _ z; cases z)
      have hCh := keep hCh (by intro _ _ _ z; cases z)
      refine ⟨_, rfl, rfl, _, rfl, ?_⟩
      rw [es_str]
      have c4 : (cellsOf (hds.take k)).length ≤ (cellsOf hds).length := filt_le (f := isCell) hds k
      have l4 : (locksOf (hds.take k)).length ≤ (locksOf hds).length := filt_le (f := isLock) hds k
      have h4 : (chansOf (hds.take k)).length ≤ (chansOf hds).length := filt_le (f := isChan) hds k
      have w1 := S1.few
      have w2 := S2.few
      cases eh : hds[k] with
      | lock z =>
        rw [eh] at eln
        rw [show decide (hdK (.lock z) = "lock") = true from decide_eq_true rfl]
        refine iteT ⟨_, rfl, .inl ⟨rfl, _, sl hL⟩, _, rfl, L, _, _, rfl, rfl, hL, ?_, ?_⟩
        · rw [List.length_map]
          exact small1000 (by omega)
        have t1 : cellsOf (hds.take (k + 1)) = cellsOf (hds.take k) := by show (hds.take (k + 1)).filterMap _ = _; rw [filt_take hlt, eh]; exact List.append_nil _
        have t2 : locksOf (hds.take (k + 1)) = locksOf (hds.take k) ++ [z] := by show (hds.take (k + 1)).filterMap _ = _; rw [filt_take hlt, eh]; rfl
        have t3 : chansOf (hds.take (k + 1)) = chansOf (hds.take k) := by show (hds.take (k + 1)).filterMap _ = _; rw [filt_take hlt, eh]; exact List.append_nil _
        refine ⟨_, _, _, rfl, v19.own fL, ?_, ?_, ?_, ?_⟩
        · rw [upd_ne nCL, t1]; exact hC
        · rw [upd_same, t2, List.map_append]; rfl
        · rw [upd_ne nLCh.symm, t3]; exact hCh
        · rw [eln]; exact R1.own v19 R9 fL
      | cell z v =>
        obtain ⟨g1, g2, g3, g4⟩ := sz_at S1 hlt (q := (z, v)) (by rw [eh]; rfl)
        rw [eh] at eln d2
        rw [show decide (hdK (.cell z v) = "lock") = false from decide_eq_false (by show ¬ ("cell" : Str) = "lock"; decide +kernel)]
        refine iteF ⟨_, rfl, rfl, _, rfl, ?_⟩
        rw [es_str, show decide (hdK (.cell z v) = "cell") = true from decide_eq_true rfl]
        refine iteT ⟨_, rfl, ?_⟩
        have dg : DGet H9 C (.str z) none := val_none g4 ▸ DGet.k (k := Sum.inr z) hC
        refine ⟨_, rfl, false, rfl, iteF ⟨_, rfl, _, rfl, C, none, rfl, dg, ?_⟩⟩
        obtain ⟨e3, d3, i3⟩ := drop_head d2
        refine ⟨_, rfl, p, dx9, _, rfl, hp9, rfl, p, ws, i + 1 + 1, v, rfl, R9, by rw [six]; exact hwl, by rw [six]; omega, e3, wt_range (by omega), fun H10 v10 R10 => ?_⟩
        have v1A := v19.tr v10
        have keep2 : ∀ {a : Addr} {o : HO}, H9 a = some o → (∀ C dx fs, o ≠ .ins C dx fs) → H10 a = some o := fun h z => v10.v _ _ h (fun e => by subst e; rw [hp9] at h; exact z _ _ _ (Option.some.inj h).symm)
        have hC := keep2 hC (by intro _ _ _ z; cases z)
        have hL := keep2 hL (by intro _ _ _ z; cases z)
        have hCh := keep2 hCh (by intro _ _ _ z; cases z)
        have t1 : cellsOf (hds.take (k + 1)) = cellsOf (hds.take k) ++ [(z, v)] := by show (hds.take (k + 1)).filterMap _ = _; rw [filt_take hlt, eh]; rfl
        have t2 : locksOf (hds.take (k + 1)) = locksOf (hds.take k) := by show (hds.take (k + 1)).filterMap _ = _; rw [filt_take hlt, eh]; exact List.append_nil _
        have t3 : chansOf (hds.take (k + 1)) = chansOf (hds.take k) := by show (hds.take (k + 1)).filterMap _ = _; rw [filt_take hlt, eh]; exact List.append_nil _
        refine ⟨_, rfl, _, rfl, C, _, rfl, DPut.k (k := Sum.inr z) hC ?_, _, _, _, rfl, v1A.own fC, ?_, ?_, ?_, ?_⟩
        · unfold dI; rw [List.length_map]; exact small1000 (by omega)
        · rw [upd_same, put_newI (p := (z, v)) g4, t1]
        · rw [upd_ne nCL.symm, t2]; exact hL
        · rw [upd_ne nCCh.symm, t3]; exact hCh
        · rw [eln]; exact R1.own v1A R10 fC
      | chan z v =>
        obtain ⟨g1, g2, g3, g4⟩ := sz_at S2 hlt (q := (z, v)) (by rw [eh]; rfl)
        rw [eh] at eln d2
        rw [show decide (hdK (.chan z v) = "lock") = false from decide_eq_false (by show ¬ ("channel" : Str) = "lock"; decide +kernel)]
        refine iteF ⟨_, rfl, rfl, _, rfl, ?_⟩
        rw [es_str, show decide (hdK (.chan z v) = "cell") = false from decide_eq_false (by show ¬ ("channel" : Str) = "cell"; decide +kernel)]
        refine iteF ⟨_, rfl, ?_⟩
        have dg : DGet H9 Ch (.str z) none := val_none g4 ▸ DGet.k (k := Sum.inr z) hCh
        refine ⟨_, rfl, false, rfl, iteF ⟨_, rfl, _, rfl, Ch, none, rfl, dg, ?_⟩⟩
        obtain ⟨e3, d3, i3⟩ := drop_head d2
        refine ⟨_, rfl, p, dx9, _, rfl, hp9, rfl, p, ws, i + 1 + 1, v, rfl, R9, by rw [six]; exact hwl, by rw [six]; omega, e3, wt_range (by omega), fun H10 v10 R10 => ?_⟩
        have v1A := v19.tr v10
        have keep2 : ∀ {a : Addr} {o : HO}, H9 a = some o → (∀ C dx fs, o ≠ .ins C dx fs) → H10 a = some o := fun h z => v10.v _ _ h (fun e => by subst e; rw [hp9] at h; exact z _ _ _ (Option.some.inj h).symm)
        have hC := keep2 hC (by intro _ _ _ z; cases z)
        have hL := keep2 hL (by intro _ _ _ z; cases z)
        have hCh := keep2 hCh (by intro _ _ _ z; cases z)
        have t1 : chansOf (hds.take (k + 1)) = chansOf (hds.take k) ++ [(z, v)] := by show (hds.take (k + 1)).filterMap _ = _; rw [filt_take hlt, eh]; rfl
        have t2 : locksOf (hds.take (k + 1)) = locksOf (hds.take k) := by show (hds.take (k + 1)).filterMap _ = _; rw [filt_take hlt, eh]; exact List.append_nil _
        have t3 : cellsOf (hds.take (k + 1)) = cellsOf (hds.take k) := by show (hds.take (k + 1)).filterMap _ = _; rw [filt_take hlt, eh]; exact List.append_nil _
        refine ⟨_, rfl, _, rfl, Ch, _, rfl, DPut.k (k := Sum.inr z) hCh ?_, _, _, _, rfl, v1A.own fCh, ?_, ?_, ?_, ?_⟩
        · unfold dI; rw [List.length_map]; exact small1000 (by omega)
        · rw [upd_ne nCCh, t3]; exact hC
        · rw [upd_ne nLCh, t2]; exact hL
        · rw [upd_same, put_newI (p := (z, v)) g4, t1]
        · rw [eln]; exact R1.own v1A R10 fCh
    · have ek : k = hds.length := by omega
      subst ek
      rw [List.drop_length, List.flatMap_nil, List.nil_append] at hd6
      rw [List.take_length] at hC hL hCh
      have hno : ¬ (ws.getD i "" = "cell" ∨ ws.getD i "" = "lock" ∨ ws.getD i "" = "channel") := by
        cases e : bwD 12 rows with
        | nil =>
          rw [e] at hd6
          have hi : ws.length ≤ i := by
            have := congrArg List.length hd6
            rw [List.length_drop, List.length_nil] at this
            omega
          rw [List.getD_eq_getElem?_getD, List.getElem?_eq_none hi]
          decide +kernel
        | cons z r =>
          rw [e] at hd6
          rw [(drop_head hd6).1]
          exact bw_first hrd z r e
      rw [decide_eq_false hno]
      have hi : i ≤ 10 ^ 6 := by
        rw [six, ← ei]
        have := congrArg List.length hws
        rw [List.length_append] at this
        rw [List.take_length]
        omega
      refine ⟨_, rfl, p, dx6, _, rfl, hp7, rfl, p, ws, i, "", rows, [], rfl, R7, by rw [six]; exact hwl, by rw [List.append_nil]; exact hd6, rfl, .inl rfl, hi, hrd, R.t, by rw [six]; exact hwt, fun v H8 v8 dv R8 => ?_⟩
      have keep : ∀ {a : Addr} {o : HO}, H7 a = some o → (∀ C dx fs, o ≠ .ins C dx fs) → H8 a = some o := fun h z => v8.v _ _ h (fun e => by subst e; rw [hp7] at h; exact z _ _ _ (Option.some.inj h).symm)
      have hC := keep hC (by intro _ _ _ z; cases z)
      have hL := keep hL (by intro _ _ _ z; cases z)
      have hCh := keep hCh (by intro _ _ _ z; cases z)
      refine nx_ ⟨_, rfl, false, rfl, iteF (nx_ ?_)⟩
      refine ⟨_, rfl, _, rfl, _, rfl, _, rfl, rfl, rfl, fun x dx2 nx ndx2 nxd => ?_⟩
      have s8 : Same H H8 := fun b o h => by
        have hb : b ≠ p := fun e => by rw [e] at h; rw [h] at np; cases np
        exact (v7.tr v8).v b o (s1 b o h) hb
      exact made2 S1 hlk hll lf S2 R dv (.inr ⟨C, rfl, hC⟩) (.inr ⟨L, rfl, hL⟩) (.inr ⟨Ch, rfl, hCh⟩) nx ndx2 fun H9 s9 G => ⟨rfl, q x H9 (s8.trans s9) (G.base fun b n => s8.free n)⟩
end
end TP
namespace TP
open PySem PySem.Spec PyProof.Rows L2 HX HB HG HU HH HD HS HV HQ HK HN HJ TL HM
/-! ### heads turned -/
def isLk : Hd → Bool
  | .lock _ => true
  | _ => false
def nLk (h : Hd) : Bool := !isLk h
theorem LL.take {H : Hp} {D : Option Addr} {vs : List V} {wss : List (List Str)} (l : LL H D vs wss) : ∀ n, LL H D (vs.take n) (wss.take n) := by
  induction l with
  | nil => intro n; rw [List.take_nil, List.take_nil]; exact .nil
  | cons h m t ih =>
    intro n
    cases n with
    | zero => exact .nil
    | succ n => exact .cons h m (ih n)
theorem LL.drop {H : Hp} {D : Option Addr} {vs : List V} {wss : List (List Str)} (l : LL H D vs wss) : ∀ n, LL H D (vs.drop n) (wss.drop n) := by
  induction l with
  | nil => intro n; rw [List.drop_nil, List.drop_nil]; exact .nil
  | cons h m t ih =>
    intro n
    cases n with
    | zero => exact .cons h m t
    | succ n => exact ih n
theorem LL.up {H H' : Hp} {d g c : Addr} {vs : List V} {wss : List (List Str)} (l : LL H none vs wss) (ne : ∀ zs ∈ wss, zs ≠ []) (D : Dr H d g c) (u : Up d g H H') : LL H' none vs wss := by
  obtain ⟨gs, cs, r, t, h1, h2, h3, _⟩ := D.ex
  induction l with
  | nil => exact .nil
  | @cons a zs vs wss h m t ih =>
    refine .cons (u _ _ h (fun e => ?_) (fun e => ?_)) m (ih fun zs hz => ne zs (List.mem_cons_of_mem _ hz))
    · rw [e, h1] at h; cases h
    · rw [e, h2] at h
      have h := HO.lst.inj (Option.some.inj h)
      have hz := ne zs (List.mem_cons_self ..)
      cases zs with
      | nil => exact hz rfl
      | cons z zs => cases gs with
        | nil => cases h
        | cons _ _ => cases h
theorem hdW_ne {hds : List Hd} : ∀ zs ∈ hds.map hdW, zs ≠ [] := by
  intro zs h
  obtain ⟨x, _, rfl⟩ := List.mem_map.mp h
  cases x <;> simp [hdW]
theorem ins_ll {H : Hp} {D : Option Addr} {vs : List V} {hs : List Hd} {x : V} {h : Hd} {n : Nat} (l : LL H D vs (hs.map hdW)) (lx : LL H D [x] [hdW h]) : LL H D (vs.take n ++ [x] ++ vs.drop n) ((hs.take n ++ [h] ++ hs.drop n).map hdW) := by
  rw [List.map_append, List.map_append, List.map_take, List.map_drop]
  exact ((l.take n).app lx).app (l.drop n)
theorem ins_perm {α : Type} (hs : List α) (h : α) (n : Nat) : (hs.take n ++ [h] ++ hs.drop n).Perm (hs ++ [h]) := by
  rw [List.append_assoc, List.singleton_append]
  refine List.perm_middle.trans ?_
  rw [List.take_append_drop]
  exact (List.perm_append_singleton h hs).symm
theorem lockOf_nl {hs : List Hd} : locksOf (hs.filter nLk) = [] := by
  refine List.filterMap_eq_nil_iff.mpr fun h hm => ?_
  have := (List.mem_filter.mp hm).2
  cases h <;> first | rfl | cases this
theorem cells_nl : ∀ hs : List Hd, cellsOf (hs.filter nLk) = cellsOf hs
  | [] => rfl
  | .cell z v :: hs => by show (z, v) :: cellsOf (hs.filter nLk) = (z, v) :: cellsOf hs; rw [cells_nl hs]
  | .lock z :: hs => cells_nl hs
  | .chan z v :: hs => cells_nl hs
theorem chans_nl : ∀ hs : List Hd, chansOf (hs.filter nLk) = chansOf hs
  | [] => rfl
  | .cell z v :: hs => chans_nl hs
  | .lock z :: hs => chans_nl hs
  | .chan z v :: hs => by show (z, v) :: chansOf (hs.filter nLk) = (z, v) :: chansOf hs; rw [chans_nl hs]
theorem locks_lk : ∀ hs : List Hd, locksOf (hs.filter isLk) = locksOf hs
  | [] => rfl
  | .cell z v :: hs => locks_lk hs
  | .lock z :: hs => by show z :: locksOf (hs.filter isLk) = z :: locksOf hs; rw [locks_lk hs]
  | .chan z v :: hs => locks_lk hs
/-- heads turned: locks in their order -/
structure Turn (hs hs' : List Hd) : Prop where
  locks : locksOf hs' = locksOf hs
  cells : (cellsOf hs').Perm (cellsOf hs)
  chans : (chansOf hs').Perm (chansOf hs)
  len : hs'.length = hs.length
theorem key_lock (h : Hd) : decide (hdK h = "lock") = isLk h := by
  cases h with
  | cell z v => exact decide_eq_false (by show ¬ ("cell" : Str) = "lock"; decide +kernel)
  | lock z => exact decide_eq_true rfl
  | chan z v => exact decide_eq_false (by show ¬ ("channel" : Str) = "lock"; decide +kernel)
theorem filter_two : ∀ hds : List Hd, (hds.filter nLk).length + (hds.filter isLk).length = hds.length
  | [] => rfl
  | .cell z v :: hs => by
    have := filter_two hs
    show ((Hd.cell z v) :: hs.filter nLk).length + (hs.filter isLk).length = hs.length + 1
    rw [List.length_cons]
    omega
  | .lock z :: hs => by
    have := filter_two hs
    show (hs.filter nLk).length + (Hd.lock z :: hs.filter isLk).length = hs.length + 1
    rw [List.length_cons]
    omega
  | .chan z v :: hs => by
    have := filter_two hs
    show ((Hd.chan z v) :: hs.filter nLk).length + (hs.filter isLk).length = hs.length + 1
    rw [List.length_cons]
    omega
theorem filter_take {α : Type} {f : α → Bool} {xs : List α} {i : Nat} (hi : i < xs.length) : (xs.take (i + 1)).filter f = (xs.take i).filter f ++ (if f xs[i] = true then [xs[i]] else []) := by
  rw [List.take_add_one, List.getElem?_eq_getElem hi, List.filter_append]
  show _ ++ [xs[i]].filter f = _
  simp only [List.filter_cons, List.filter_nil]
section
variable {P : Program} {w : World} {K : PySem.W.Frag} {mg : Str → Option Value} {base : Heap}
def spTurned : Sp := fun vs H Q _ => ∃ (d g c hl : Addr) (us : List V) (hds : List Hd), vs = [.ref d, .ref hl] ∧ Dr H d g c ∧ H hl = some (.lst us) ∧ hl ≠ d ∧ hl ≠ g ∧ LL H none us (hds.map hdW) ∧ hds.length ≤ 100 ∧
  ∀ p us' hds' H', H p = none → Dr H' d g c → Up d g H H' → H' p = some (.lst us') → LL H' none us' (hds'.map hdW) → Turn hds hds' → Q (.ref p) H'
theorem ok_turned (T : Tp K w mg) : FnOk P w K mg base CX0 2 T.f_turned T.fd_turned ["_law_draw", "_law_heads_here"] spTurned := by
  refine T.D_turned.F.ok sc_turned (fun vs H Q E h => ?_) (fun cdv A outer s H vs Q E hr h => ?_)
  · obtain ⟨d, g, c, hl, us, hds, rfl, _⟩ := h
    rfl
  · obtain ⟨d, g, c, hl, us, hds, rfl, D, hhl, nhd, nhg, L0, l100, q⟩ := h
    have hu := hu_of hr
    refine ⟨_, (pss_cons (ps_set (i := 2) sc_turned.nd rfl (.inl rfl) (pe_lst pa_nil))
  (pss_cons (ps_for PassesOwn.never rfl (pi_list (pe_lc (own := [("_law_head_here", 3)]) (g := gName 3) (by rfl) sc_turned.nd (pi_list (pv 1)) (blkOk_by (own := [("_law_head_here", 3)]) (N := ["_law_draw", "_law_heads_here", "_law_found", "_law_head_here", "_law_least"]) (sc := defScope s_turned) (by decide +kernel)) (fun _ _ _ _ _ => (pg_name (i := 3) sc_turned.nd rfl (.inl rfl))) (fun _ _ _ _ _ => (pts_one (pt_cmpR op_ne (pe_ix (show IxR _ (rIxL K) from ix_list) (pv 3) pe_int (fun _ _ => rfl)) pe_str (nomark _)))) (fun _ _ _ _ _ => (pv 3)))) (pg_name (i := 3) sc_turned.nd rfl (.inl rfl))
  (pss_one (ps_expr (pe_bm PySem.F.plainAttrs_list PySem.F.slot_list_insert PySem.F.type_list_insert mt_insert (pv 2) (pa_cons (pcall T.D_next (ok_next T) hr (by rfl) (pa_cons (pv 0) (pa_cons (pe_op op_add (pe_callB call_len_seq (by rfl) T.len PySem.boot_len (pa_cons (pv 2) pa_nil)) pe_int) pa_nil))) (pa_cons (pv 3) pa_nil))))))
  (pss_cons (ps_set (i := 4) sc_turned.nd rfl (.inl rfl) pe_int)
  (pss_cons (ps_for PassesOwn.never rfl (pi_list (pe_lc (own := [("_law_head_here", 3)]) (g := gName 3) (by rfl) sc_turned.nd (pi_list (pv 1)) (blkOk_by (own := [("_law_head_here", 3)]) (N := ["_law_draw", "_law_heads_here", "_law_found", "_law_head_here", "_law_least"]) (sc := defScope s_turned) (by decide +kernel)) (fun _ _ _ _ _ => (pg_name (i := 3) sc_turned.nd rfl (.inl rfl))) (fun _ _ _ _ _ => (pts_one (pt_cmpR op_eq (pe_ix (show IxR _ (rIxL K) from ix_list) (pv 3) pe_int (fun _ _ => rfl)) pe_str (nomark _)))) (fun _ _ _ _ _ => (pv 3)))) (pg_name (i := 3) sc_turned.nd rfl (.inl rfl))
  (pss_cons (ps_set (i := 4) sc_turned.nd rfl (.inl rfl) (pe_op op_add (pv 4) (pcall T.D_next (ok_next T) hr (by rfl) (pa_cons (pv 0) (pa_cons (pe_op op_add (pe_op op_sub (pe_callB call_len_seq (by rfl) T.len PySem.boot_len (pa_cons (pv 2) pa_nil)) (pv 4)) pe_int) pa_nil)))))
  (pss_cons (ps_expr (pe_bm PySem.F.plainAttrs_list PySem.F.slot_list_insert PySem.F.type_list_insert mt_insert (pv 2) (pa_cons (pv 4) (pa_cons (pv 3) pa_nil))))
  (pss_one (ps_set (i := 4) sc_turned.nd rfl (.inl rfl) (pe_op op_add (pv 4) pe_int))))))
  (pss_one (ps_ret (pv 2))))))), ?_⟩
    refine ⟨Nat.zero_le _, fun F nF => ?_⟩
    have sF := same_upd (o := .lst []) nF
    have hF : (upd H F (.lst [])) F = some (.lst []) := upd_same
    show tSeq _ _ _ _ (upd H F (.lst []))
    generalize upd H F (.lst []) = H1 at sF hF ⊢
    have luw := L0.len
    rw [List.length_map] at luw
    -- all but the locks
    refine ⟨_, rfl, hl, rfl, ⟨_, sl (sF _ _ hhl)⟩, fun DL nDL => ?_⟩
    refine lc_it (walk_list (xs := us)) (fun i H2 => Same H1 H2 ∧ ∃ as, H2 DL = some (.lst as) ∧ LL H none as (((hds.take i).filter nLk).map hdW)) ⟨same_upd nDL, [], upd_same, .nil⟩ (fun i H2 _ g => sl (g.1 _ _ (sF _ _ hhl))) ?_ ?_
    · rintro i x H2 H3 hi ⟨sm, as, hA, hL⟩ ⟨rfl, gx⟩
      obtain ⟨a, zs, rfl, hz, ha⟩ := L0.at_ gx
      have hih : i < hds.length := by omega
      rw [List.getElem?_map, List.getElem?_eq_getElem hih] at hz
      cases hz
      have ha3 := sm _ _ (sF _ _ ha)
      rw [hdW_eq] at ha3
      refine ⟨rfl, _, rfl, _, _, _, _, rfl, rfl, sl ha3, atI_nat (j := 0) rfl, rfl, _, rfl, ?_⟩
      rw [es_str, key_lock]
      show if nLk hds[i] = true then _ else _
      have l3 := hL.len
      rw [List.length_map] at l3
      have l4 := List.length_filter_le nLk (hds.take i)
      rw [List.length_take] at l4
      cases en : nLk hds[i] with
      | true =>
        refine iteT ⟨_, rfl, as, hA, small1000 (by omega), sm.own nDL, as ++ [.ref a], upd_same, ?_⟩
        rw [filter_take hih, en, if_pos rfl, List.map_append]
        exact hL.app (.cons ha (by simp) .nil)
      | false =>
        refine iteF ⟨sm, as, hA, ?_⟩
        rw [filter_take hih, en, if_neg Bool.false_ne_true, List.append_nil]
        exact hL
    rintro H2 ⟨sm, as, hA, hL⟩
    rw [luw, List.take_length] at hL
    have fDL : H DL = none := sF.free nDL
    have nFDL : F ≠ DL := fun e => by rw [← e, hF] at nDL; cases nDL
    have aF := D.apart nF
    have aDL := D.apart fDL
    have las := hL.len
    rw [List.length_map] at las
    have l5 := List.length_filter_le nLk hds
    refine ⟨DL, rfl, ⟨_, sl hA⟩, ?_⟩
    have s02 := sF.trans sm
    refine for_it (walk_list (xs := as)) (fun j σ H3 => ∃ (fs : List V) (hs1 : List Hd) (y3 : Option V), σ = [some (.ref d), some (.ref hl), some (.ref F), y3, none] ∧ Dr H3 d g c ∧ Up d g H H3 ∧ H3 DL = some (.lst as) ∧ H3 F = some (.lst fs) ∧ LL H none fs (hs1.map hdW) ∧ hs1.Perm ((hds.filter nLk).take j)) ?_ (fun j σ H3 _ g => by obtain ⟨_, _, _, _, _, _, hA, _⟩ := g; exact sl hA) ?_ ?_
    · exact ⟨[], [], none, rfl, D.same s02, Up.of s02, hA, sm _ _ hF, .nil, by rw [List.take_zero]⟩
    · rintro j σ x H3z H3 hj ⟨fs, hs1, y3, rfl, D3, u3, hA3, hF3, lF, pm⟩ ⟨rfl, gx⟩
      obtain ⟨a, zs, rfl, hz, ha⟩ := hL.at_ gx
      have hjh : j < (hds.filter nLk).length := by omega
      rw [List.getElem?_map, List.getElem?_eq_getElem hjh] at hz
      cases hz
      have lfs := lF.len
      rw [List.length_map] at lfs
      have lp := pm.length_eq
      rw [List.length_take] at lp
      refine ⟨_, rfl, .inl ⟨rfl, _, sl hF3⟩, _, rfl, _, rfl, F, _, rfl, .inl (sl hF3), _, _, rfl, rfl, d, g, c, _, rfl, D3, by omega, ?_, fun r H4 r0 r1 D4 u4 => ?_⟩
      · have : (10 : Int) ^ 13 = 10000000000000 := by decide
        omega
      have hF4 := u4 _ _ hF3 aF.1 aF.2.1
      have hA4 := u4 _ _ hA3 aDL.1 aDL.2.1
      refine ⟨_, rfl, F, fs, r, .ref a, rfl, rfl, hF4, small1000 (by omega), r0, by omega, ?_⟩
      refine ⟨_, hs1.take r.toNat ++ [(hds.filter nLk)[j]] ++ hs1.drop r.toNat, _, rfl, D4.set aF.1 aF.2.1 aF.2.2, (u3.trans u4).own nF, ?_, upd_same, ?_, ?_⟩
      · rw [upd_ne nFDL.symm]; exact hA4
      · exact ins_ll lF (.cons ha (by simp) .nil)
      · refine (ins_perm hs1 _ _).trans ?_
        rw [List.take_add_one, List.getElem?_eq_getElem hjh]
        exact pm.append_right _
    rintro σ H3 ⟨fs, hs1, y3, rfl, D3, u3, hA3, hF3, lF, pm⟩
    rw [las, List.take_length] at pm
    refine nx_ ?_
    have hhl3 := u3 _ _ hhl nhd nhg
    -- the locks
    refine ⟨_, rfl, hl, rfl, ⟨_, sl hhl3⟩, fun DM nDM => ?_⟩
    refine lc_it (walk_list (xs := us)) (fun i H4 => Same H3 H4 ∧ ∃ bs, H4 DM = some (.lst bs) ∧ LL H none bs (((hds.take i).filter isLk).map hdW)) ⟨same_upd nDM, [], upd_same, .nil⟩ (fun i H4 _ g => sl (g.1 _ _ hhl3)) ?_ ?_
    · rintro i x H4 H5 hi ⟨sm4, bs, hB, hM⟩ ⟨rfl, gx⟩
      obtain ⟨a, zs, rfl, hz, ha⟩ := L0.at_ gx
      have hih : i < hds.length := by omega
      rw [List.getElem?_map, List.getElem?_eq_getElem hih] at hz
      cases hz
      have ha3 : H5 a = some (.lst ((hdW hds[i]).map V.str)) := by
        obtain ⟨a', zs', e1, e2, e3⟩ := ((L0.up hdW_ne D u3).same sm4).at_ gx
        cases e1
        rw [List.getElem?_map, List.getElem?_eq_getElem hih] at e2
        cases e2
        exact e3
      rw [hdW_eq] at ha3
      refine ⟨rfl, _, rfl, _, _, _, _, rfl, rfl, sl ha3, atI_nat (j := 0) rfl, rfl, _, rfl, ?_⟩
      rw [es_str, key_lock]
      have l3 := hM.len
      rw [List.length_map] at l3
      have l4 := List.length_filter_le isLk (hds.take i)
      rw [List.length_take] at l4
      cases en : isLk hds[i] with
      | true =>
        refine iteT ⟨_, rfl, bs, hB, small1000 (by omega), sm4.own nDM, bs ++ [.ref a], upd_same, ?_⟩
        rw [filter_take hih, en, if_pos rfl, List.map_append]
        exact hM.app (.cons ha (by simp) .nil)
      | false =>
        refine iteF ⟨sm4, bs, hB, ?_⟩
        rw [filter_take hih, en, if_neg Bool.false_ne_true, List.append_nil]
        exact hM
    rintro H4 ⟨sm4, bs, hB, hM⟩
    rw [luw, List.take_length] at hM
    have aDM := D3.apart nDM
    have nFDM : F ≠ DM := fun e => by rw [← e, hF3] at nDM; cases nDM
    have lbs := hM.len
    rw [List.length_map] at lbs
    have l6 := List.length_filter_le isLk hds
    have lt := filter_two hds
    have lpm := pm.length_eq
    refine ⟨DM, rfl, ⟨_, sl hB⟩, ?_⟩
    refine for_it (walk_list (xs := bs)) (fun j σ H5 => ∃ (fs : List V) (hs2 : List Hd) (n : Nat) (y3 : Option V), σ = [some (.ref d), some (.ref hl), some (.ref F), y3, some (.int (n : Int))] ∧ Dr H5 d g c ∧ Up d g H H5 ∧ H5 DM = some (.lst bs) ∧ H5 F = some (.lst fs) ∧ LL H none fs (hs2.map hdW) ∧ (hs2.filter nLk).Perm (hds.filter nLk) ∧ n ≤ hs2.length ∧ hs2.length = hs1.length + j ∧ locksOf (hs2.take n) = locksOf ((hds.filter isLk).take j) ∧ locksOf (hs2.drop n) = []) ?_ (fun j σ H5 _ g => by obtain ⟨_, _, _, _, _, _, _, hB, _⟩ := g; exact sl hB) ?_ ?_
    · refine ⟨fs, hs1, 0, y3, rfl, D3.same sm4, u3.trans (Up.of sm4), hB, sm4 _ _ hF3, lF, ?_, Nat.zero_le _, rfl, by rw [List.take_zero, List.take_zero], ?_⟩
      · have e : (hds.filter nLk).filter nLk = hds.filter nLk := List.filter_filter .. |>.trans (by congr 1; funext x; exact Bool.and_self _)
        have := pm.filter nLk
        rw [e] at this
        exact this
      · rw [List.drop_zero]
        refine List.filterMap_eq_nil_iff.mpr fun h hm => ?_
        have h2 := (List.mem_filter.mp (pm.mem_iff.mp hm)).2
        cases h <;> first | rfl | cases h2
    · rintro j σ x H5z H5 hj ⟨fs, hs2, n, y3, rfl, D5, u5, hB5, hF5, lF5, pm5, hn, lh2, k1, k2⟩ ⟨rfl, gx⟩
      obtain ⟨a, zs, rfl, hz, ha⟩ := hM.at_ gx
      have hjh : j < (hds.filter isLk).length := by omega
      rw [List.getElem?_map, List.getElem?_eq_getElem hjh] at hz
      cases hz
      have lfs := lF5.len
      rw [List.length_map] at lfs
      refine ⟨_, rfl, _, rfl, _, rfl, F, _, rfl, .inl (sl hF5), _, rfl, _, _, rfl, rfl, _, _, rfl, rfl, d, g, c, _, rfl, D5, by omega, ?_, fun r H6 r0 r1 D6 u6 => ?_⟩
      · have : (10 : Int) ^ 13 = 10000000000000 := by decide
        omega
      have hF6 := u6 _ _ hF5 aF.1 aF.2.1
      have hB6 := u6 _ _ hB5 aDM.1 aDM.2.1
      obtain ⟨r, rfl⟩ : ∃ k : Nat, r = k := ⟨r.toNat, by omega⟩
      have hnr : n + r ≤ hs2.length := by omega
      have etn : ((n : Int) + (r : Int)).toNat = n + r := by omega
      refine ⟨_, _, rfl, rfl, ?_⟩
      refine ⟨_, rfl, .inl ⟨rfl, _, sl hF6⟩, _, rfl, _, rfl, F, fs, (n : Int) + (r : Int), .ref a, rfl, rfl, hF6, small1000 (by omega), by omega, by omega, ?_⟩
      refine ⟨_, rfl, _, _, rfl, rfl, ?_⟩
      have el : isLk (hds.filter isLk)[j] = true := (List.mem_filter.mp (List.getElem_mem hjh)).2
      have c1 : locksOf (hs2.take (n + r)) = locksOf ((hds.filter isLk).take j) ∧ locksOf (hs2.drop (n + r)) = [] := by
        have e1 : hs2.take (n + r) = hs2.take n ++ (hs2.drop n).take r := by rw [List.take_add]
        have e2 : hs2.drop n = (hs2.drop n).take r ++ hs2.drop (n + r) := by rw [← List.drop_drop, List.take_append_drop]
        have e3 : locksOf ((hs2.drop n).take r) ++ locksOf (hs2.drop (n + r)) = [] := by
          show (((hs2.drop n).take r).filterMap isLock) ++ ((hs2.drop (n + r)).filterMap isLock) = []
          rw [← List.filterMap_append, ← e2]
          exact k2
        obtain ⟨e4, e5⟩ := List.append_eq_nil_iff.mp e3
        refine ⟨?_, e5⟩
        rw [e1]
        show (hs2.take n ++ (hs2.drop n).take r).filterMap isLock = _
        rw [List.filterMap_append]
        show locksOf (hs2.take n) ++ locksOf ((hs2.drop n).take r) = _
        rw [e4, List.append_nil]
        exact k1
      have ltk : (hs2.take (n + r)).length = n + r := by rw [List.length_take]; omega
      have hw : (n : Int) + (r : Int) + 1 = ((n + r + 1 : Nat) : Int) := by omega
      refine ⟨_, hs2.take (n + r) ++ [(hds.filter isLk)[j]] ++ hs2.drop (n + r), n + r + 1, _, congrArg (fun z : Int => [some (V.ref d), some (V.ref hl), some (V.ref F), some (V.ref a), some (V.int z)]) hw, D6.set aF.1 aF.2.1 aF.2.2, (u5.trans u6).own nF, ?_, upd_same, ?_, ?_, ?_, ?_, ?_, ?_⟩
      · rw [upd_ne nFDM.symm]; exact hB6
      · rw [etn]; exact ins_ll lF5 (.cons ha (by simp) .nil)
      · have h1 := (ins_perm hs2 (hds.filter isLk)[j] (n + r)).filter nLk
        rw [List.filter_append (l₁ := hs2)] at h1
        have h2 : [(hds.filter isLk)[j]].filter nLk = [] := by
          unfold nLk
          simp [el]
        rw [h2, List.append_nil] at h1
        exact h1.trans pm5
      · rw [List.length_append, List.length_append, ltk, List.length_singleton]; omega
      · rw [List.length_append, List.length_append, ltk, List.length_singleton, List.length_drop]; omega
      · have e1 : (hs2.take (n + r) ++ [(hds.filter isLk)[j]] ++ hs2.drop (n + r)).take (n + r + 1) = hs2.take (n + r) ++ [(hds.filter isLk)[j]] := by
          rw [List.take_append_of_le_length (by rw [List.length_append, ltk, List.length_singleton]; exact Nat.le_refl _), List.take_of_length_le (by rw [List.length_append, ltk, List.length_singleton]; exact Nat.le_refl _)]
        rw [e1]
        show (hs2.take (n + r) ++ [(hds.filter isLk)[j]]).filterMap isLock = ((hds.filter isLk).take (j + 1)).filterMap isLock
        rw [List.take_add_one, List.getElem?_eq_getElem hjh, List.filterMap_append, List.filterMap_append]
        show locksOf (hs2.take (n + r)) ++ _ = locksOf ((hds.filter isLk).take j) ++ _
        rw [c1.1]
        rfl
      · have e1 : (hs2.take (n + r) ++ [(hds.filter isLk)[j]] ++ hs2.drop (n + r)).drop (n + r + 1) = hs2.drop (n + r) := by
          rw [List.drop_append_of_le_length (by rw [List.length_append, ltk, List.length_singleton]; exact Nat.le_refl _), List.drop_of_length_le (by rw [List.length_append, ltk, List.length_singleton]; exact Nat.le_refl _), List.nil_append]
        rw [e1]
        exact c1.2
    · rintro σ H5 ⟨fs, hs2, n, y3, rfl, D5, u5, hB5, hF5, lF5, pm5, hn, lh2, k1, k2⟩
      rw [lbs, List.take_length] at k1
      refine ⟨_, rfl, q F fs hs2 H5 nF D5 u5 hF5 (lF5.up hdW_ne D u5) ⟨?_, ?_, ?_, by omega⟩⟩
      · have e : locksOf hs2 = locksOf (hs2.take n) ++ locksOf (hs2.drop n) := by
          show hs2.filterMap isLock = _
          rw [← List.filterMap_append, List.take_append_drop]
        rw [e, k1, k2, List.append_nil, locks_lk]
      · rw [← cells_nl hs2, ← cells_nl hds]
        exact pm5.filterMap isCell
      · rw [← chans_nl hs2, ← chans_nl hds]
        exact pm5.filterMap isChan
end
end TP
namespace TP
open PySem PySem.Spec PyProof.Rows L2 HX HB HG HU HH HD HS HV HQ HK HN HJ TL HM
def seps0 : List Str := ["", " ", "\n", "  \n "]
def seps1 : List Str := [" ", " ", "\n", "  ", " \n", "\n\n"]
theorem seps0_ok : ∀ z ∈ seps0, (∀ c ∈ tl z, isSep c = true) ∧ z.length ≤ 4 := by
  have : ∀ z ∈ seps0, ((tl z).all isSep && decide (z.length ≤ 4)) = true := by decide +kernel
  intro z h
  have := this z h
  rw [Bool.and_eq_true, List.all_eq_true] at this
  exact ⟨this.1, of_decide_eq_true this.2⟩
theorem seps1_ok : ∀ z ∈ seps1, (∀ c ∈ tl z, isSep c = true) ∧ tl z ≠ [] ∧ z.length ≤ 2 := by
  have : ∀ z ∈ seps1, ((tl z).all isSep && (decide (tl z ≠ []) && decide (z.length ≤ 2))) = true := by decide +kernel
  intro z h
  have := this z h
  rw [Bool.and_eq_true, Bool.and_eq_true, List.all_eq_true] at this
  exact ⟨this.1, of_decide_eq_true this.2.1, of_decide_eq_true this.2.2⟩
theorem wl_take (ws : List Str) (i : Nat) : wl (ws.take i) ≤ wl ws := by
  have e : wl ws = wl (ws.take i) + wl (ws.drop i) := by rw [← wl_app, List.take_append_drop]
  omega
section
variable {P : Program} {w : World} {K : PySem.W.Frag} {mg : Str → Option Value} {base : Heap}
def spJoined : Sp := fun vs H Q _ => ∃ (d g c w0 : Addr) (ws : List Str), vs = [.ref d, .ref w0] ∧ Dr H d g c ∧ H w0 = some (.lst (ws.map V.str)) ∧ w0 ≠ d ∧ w0 ≠ g ∧ (∀ z ∈ ws, Wd z) ∧ wl ws ≤ 100000 ∧
  ∀ text H', Dr H' d g c → Up d g H H' → wordsOf text = ws → text.length ≤ 10 ^ 6 → Q (.str text) H'
theorem ok_joined (T : Tp K w mg) : FnOk P w K mg base CX0 2 T.f_joined T.fd_joined ["_law_draw", "_law_words_here"] spJoined := by
  refine T.D_joined.F.ok sc_joined (fun vs H Q E h => ?_) (fun cdv A outer s H vs Q E hr h => ?_)
  · obtain ⟨d, g, c, w0, ws, rfl, _⟩ := h
    rfl
  · obtain ⟨d, g, c, w0, ws, rfl, D, hw0, nwd, nwg, hwd, hwl, q⟩ := h
    have hu := hu_of hr
    refine ⟨_, (pss_cons (ps_set (i := 2) sc_joined.nd rfl (.inl rfl) (pe_ix ix_list (pe_lst (pa_cons pe_str (pa_cons pe_str (pa_cons pe_str (pa_cons pe_str pa_nil))))) (pcall T.D_next (ok_next T) hr (by rfl) (pa_cons (pv 0) (pa_cons pe_int pa_nil))) (fun _ _ => rfl)))
  (pss_cons (ps_for PassesOwn.never rfl (pi_list (pv 1)) (pg_name (i := 3) sc_joined.nd rfl (.inl rfl))
  (pss_one (ps_set (i := 2) sc_joined.nd rfl (.inl rfl) (pe_op op_add_str (pe_op op_add_str (pv 2) (pv 3)) (pe_ix ix_list (pe_lst (pa_cons pe_str (pa_cons pe_str (pa_cons pe_str (pa_cons pe_str (pa_cons pe_str (pa_cons pe_str pa_nil))))))) (pcall T.D_next (ok_next T) hr (by rfl) (pa_cons (pv 0) (pa_cons pe_int pa_nil))) (fun _ _ => rfl))))))
  (pss_one (ps_ret (pv 2))))), ?_⟩
    refine ⟨by show 4 ≤ sizeLine; decide, fun l nl => ?_⟩
    have s1 := same_upd (o := .lst (seps0.map V.str)) nl
    have hl1 : (upd H l (.lst (seps0.map V.str))) l = some (.lst (seps0.map V.str)) := upd_same
    have al := D.apart nl
    refine ⟨_, rfl, d, g, c, 4, rfl, D.same s1, by decide, by decide, fun r H2 r0 r1 D2 u2 => ?_⟩
    obtain ⟨r, rfl⟩ : ∃ k : Nat, r = k := ⟨r.toNat, by omega⟩
    have hl2 := u2 _ _ hl1 al.1 al.2.1
    have hr4 : r < seps0.length := by show r < 4; omega
    refine ⟨l, _, _, .str seps0[r], rfl, rfl, sl hl2, atI_nat (by rw [List.getElem?_map, List.getElem?_eq_getElem hr4]; rfl), ?_⟩
    obtain ⟨k1, k2⟩ := seps0_ok _ (List.getElem_mem hr4)
    have u02 : Up d g H H2 := (Up.of s1).trans u2
    show tSeq _ _ _ _ H2
    refine ⟨_, rfl, w0, rfl, ⟨_, sl (u02 _ _ hw0 nwd nwg)⟩, ?_⟩
    refine for_it (walk_list (xs := ws.map V.str)) (fun i σ H3 => ∃ (t : Str) (y3 : Option V), σ = [some (.ref d), some (.ref w0), some (.str t), y3] ∧ Dr H3 d g c ∧ Up d g H H3 ∧ Jn (tl t) (ws.take i) ∧ t.length ≤ 4 + 3 * wl (ws.take i)) ?_ (fun i σ H3 _ g => by obtain ⟨_, _, _, _, u, _⟩ := g; exact sl (u _ _ hw0 nwd nwg)) ?_ ?_
    · exact ⟨seps0[r], none, rfl, D2, u02, by rw [List.take_zero]; exact Jn.seps k1, by omega⟩
    · rintro i σ x H3z H3 hi ⟨t, y3, rfl, D3, u3, jn, ht⟩ ⟨rfl, gx⟩
      rw [List.length_map] at hi
      rw [List.getElem?_map, List.getElem?_eq_getElem hi] at gx
      cases gx
      have e : ws.take (i + 1) = ws.take i ++ [ws[i]] := by rw [List.take_add_one, List.getElem?_eq_getElem hi]; rfl
      have w1 := wl_take ws (i + 1)
      have ew : wl (ws.take (i + 1)) = wl (ws.take i) + (ws[i].length + 1) := by rw [e, wl_app]; rfl
      refine ⟨_, rfl, _, rfl, _, _, rfl, rfl, Nat.le_of_lt (sz6 (by omega)), ?_⟩
      refine ⟨by show 6 ≤ sizeLine; decide, fun l nl => ?_⟩
      have s4 := same_upd (o := .lst (seps1.map V.str)) nl
      have hl4 : (upd H3 l (.lst (seps1.map V.str))) l = some (.lst (seps1.map V.str)) := upd_same
      have al := D3.apart nl
      refine ⟨_, rfl, d, g, c, 6, rfl, D3.same s4, by decide, by decide, fun r H5 r0 r1 D5 u5 => ?_⟩
      obtain ⟨r, rfl⟩ : ∃ k : Nat, r = k := ⟨r.toNat, by omega⟩
      have hl5 := u5 _ _ hl4 al.1 al.2.1
      have hr6 : r < seps1.length := by show r < 6; omega
      refine ⟨l, _, _, .str seps1[r], rfl, rfl, sl hl5, atI_nat (by rw [List.getElem?_map, List.getElem?_eq_getElem hr6]; rfl), ?_⟩
      obtain ⟨m1, m2, m3⟩ := seps1_ok _ (List.getElem_mem hr6)
      refine ⟨_, _, rfl, rfl, ?_, ?_⟩
      · rw [strLen_append]
        exact Nat.le_of_lt (sz6 (by omega))
      refine ⟨_, _, rfl, D5, u3.trans ((Up.of s4).trans u5), ?_, ?_⟩
      · rw [tl_append, tl_append, e]
        exact jn.word (hwd _ (List.getElem_mem hi)) m2 m1
      · rw [strLen_append, strLen_append]
        omega
    · rintro σ H3 ⟨t, y3, rfl, D3, u3, jn, ht⟩
      rw [List.length_map, List.take_length] at jn ht
      refine ⟨_, rfl, q t H3 D3 u3 jn.words ?_⟩
      rw [six]
      omega
theorem ok_lread (T : Tp K w mg) : FnOk P w K mg base CX0 61 T.f_lread T.fd_lread ["_law_text"] (spRead K T.C_Program) := by
  refine T.D_lread.F.ok sc_lread (fun vs H Q E h => ?_) (fun cdv A outer s H vs Q E hr h => ?_)
  · obtain ⟨text, hds, rows, rfl, _⟩ := h
    rfl
  · obtain ⟨text, hds, rows, rfl, hlen, hws, hwl, S1, hlk, hll, lf, S2, R, hrd, hwt, q⟩ := h
    refine ⟨_, (pss_cons (ps_set (i := 1) sc_lread.nd rfl (.inl rfl) pe_non)
  (pss_cons (ps_try_thru0 (pss_one (ps_set (i := 1) sc_lread.nd rfl (.inl rfl) (pcall T.D_readprog (ok_readprog T) (hr.mono (by omega)) (by rfl) (pa_cons (pv 0) pa_nil)))))
  (pss_one (ps_ret (pv 1))))), ?_⟩
    refine ⟨_, rfl, text, hds, rows, rfl, hlen, hws, hwl, S1, hlk, hll, lf, S2, R, hrd, hwt, fun p H' s' G => ⟨_, rfl, q p H' s' G⟩⟩
end
end TP
namespace TP
open PySem PySem.Spec PyProof.Rows L2 HX HB HG HU HH HD HS HV HQ HK HN HJ TL HM HP HR HO HC HF
/-! ### sorted names, in whatever order they came -/
def leS (x y : Str) : Bool := decide (tl x ≤ tl y)
theorem srt_merge (zs : List Str) : srt zs = zs.mergeSort leS := by
  unfold srt sortD
  have e1 : (zs.map V.str).zip (zs.map PyData.str) = zs.map fun z => (V.str z, PyData.str z) := by rw [List.zip_map']
  rw [e1, ← List.map_mergeSort (r := leS) (fun x _ y _ => ?_), List.map_map, List.map_map]
  · have : ((unS ∘ fun p : V × PyData => p.1) ∘ fun z => (V.str z, PyData.str z)) = id := rfl
    rw [this, List.map_id]
  · show leS x y = PySem.W.dataLe false (·) (PyData.str x) (PyData.str y)
    have := congrFun (congrFun (PySem.W.dataLe_str (β := Str) id) x) y
    exact this.symm
theorem srt_congr {zs ys : List Str} (h : zs.Perm ys) : srt zs = srt ys := by
  rw [srt_merge, srt_merge]
  have tr : ∀ a b c : Str, leS a b = true → leS b c = true → leS a c = true := fun a b c h1 h2 => decide_eq_true (List.le_trans (of_decide_eq_true h1) (of_decide_eq_true h2))
  have to : ∀ a b : Str, (leS a b || leS b a) = true := fun a b => by
    rw [Bool.or_eq_true]
    rcases List.le_total (tl a) (tl b) with h | h
    · exact .inl (decide_eq_true h)
    · exact .inr (decide_eq_true h)
  have p1 := List.pairwise_mergeSort tr to zs
  have p2 := List.pairwise_mergeSort tr to ys
  refine List.Perm.eq_of_pairwise (le := fun a b => leS a b = true) (fun x y _ _ h1 h2 => ext_tl (List.le_antisymm (of_decide_eq_true h1) (of_decide_eq_true h2))) p1 p2 ?_
  exact ((List.mergeSort_perm zs leS).trans h).trans (List.mergeSort_perm ys leS).symm
theorem srt_perm (zs : List Str) : (srt zs).Perm zs := by rw [srt_merge]; exact List.mergeSort_perm zs leS
theorem lookI_mem : ∀ {cs : List (Str × Int)} {q : Str × Int}, (cs.map (·.1)).Nodup → q ∈ cs → lookI cs q.1 = q.2
  | p :: cs, q, nd, h => by
    rw [List.map_cons, List.nodup_cons] at nd
    unfold lookI
    by_cases e : p.1 = q.1
    · rw [List.find?_cons_of_pos (by simp [e])]
      rcases List.mem_cons.mp h with rfl | h
      · rfl
      · exact absurd (e ▸ List.mem_map_of_mem h) nd.1
    · rw [List.find?_cons_of_neg (by simp [e])]
      rcases List.mem_cons.mp h with rfl | h
      · exact absurd rfl e
      · exact lookI_mem nd.2 h
theorem Sz.perm {cs cs' : List (Str × Int)} {l u : Int} (h : Sz cs l u) (p : cs'.Perm cs) : Sz cs' l u :=
  ⟨fun q hq => h.names q (p.mem_iff.mp hq), ((p.map (·.1)).nodup_iff).mpr h.nd, by rw [p.length_eq]; exact h.few, fun q hq => h.rng q (p.mem_iff.mp hq)⟩
theorem cell_congr {kind : Str} {cs cs' : List (Str × Int)} (nd : (cs.map (·.1)).Nodup) (p : cs'.Perm cs) : (srt (cs'.map (·.1))).flatMap (cellW kind cs') = (srt (cs.map (·.1))).flatMap (cellW kind cs) := by
  rw [srt_congr (p.map (·.1))]
  have nd' : (cs'.map (·.1)).Nodup := ((p.map (·.1)).nodup_iff).mpr nd
  have : ∀ zs : List Str, (∀ z ∈ zs, z ∈ cs.map (·.1)) → zs.flatMap (cellW kind cs') = zs.flatMap (cellW kind cs) := by
    intro zs
    induction zs with
    | nil => intro _; rfl
    | cons z zs ih =>
      intro h
      rw [List.flatMap_cons, List.flatMap_cons, ih fun y hy => h y (List.mem_cons_of_mem _ hy)]
      obtain ⟨q, hq, rfl⟩ := List.mem_map.mp (h z (List.mem_cons_self ..))
      unfold cellW
      rw [lookI_mem nd hq, lookI_mem nd' (p.mem_iff.mpr hq)]
  exact this _ fun z hz => srt_mem hz
theorem text_congr {cs cs' hs hs' : List (Str × Int)} {ls : List Str} {rows : List PyData} (nc : (cs.map (·.1)).Nodup) (nh : (hs.map (·.1)).Nodup) (pc : cs'.Perm cs) (ph : hs'.Perm hs) : textW cs' ls hs' rows = textW cs ls hs rows := by
  unfold textW headW
  rw [cell_congr nc pc, cell_congr nh ph]
/-- the heads in the law's order -/
def hds0 (cs : List (Str × Int)) (ls : List Str) (hs : List (Str × Int)) : List Hd := ((srt (cs.map (·.1))).map (fun z => Hd.cell z (lookI cs z)) ++ ls.map Hd.lock) ++ (srt (hs.map (·.1))).map (fun z => Hd.chan z (lookI hs z))
theorem hds0_W (cs : List (Str × Int)) (ls : List Str) (hs : List (Str × Int)) : (hds0 cs ls hs).map hdW = headsL cs ls hs := by
  unfold hds0 headsL
  rw [List.map_append, List.map_append, List.map_map, List.map_map, List.map_map]
  rfl
theorem hds0_flat (cs : List (Str × Int)) (ls : List Str) (hs : List (Str × Int)) : (hds0 cs ls hs).flatMap hdW = headW cs ls hs := by
  rw [← heads_flat, ← hds0_W, List.flatMap_def]
theorem look_perm {cs : List (Str × Int)} (nd : (cs.map (·.1)).Nodup) : ((srt (cs.map (·.1))).map fun z => (z, lookI cs z)).Perm cs := by
  have h1 := (srt_perm (cs.map (·.1))).map fun z => (z, lookI cs z)
  refine h1.trans ?_
  rw [List.map_map]
  have : cs.map ((fun z => (z, lookI cs z)) ∘ fun q : Str × Int => q.1) = cs := by
    have aux : ∀ ps : List (Str × Int), (∀ q ∈ ps, q ∈ cs) → ps.map ((fun z => (z, lookI cs z)) ∘ fun q : Str × Int => q.1) = ps := by
      intro ps
      induction ps with
      | nil => intro _; rfl
      | cons q ps ih =>
        intro h
        rw [List.map_cons, ih fun y hy => h y (List.mem_cons_of_mem _ hy)]
        show (q.1, lookI cs q.1) :: ps = q :: ps
        rw [lookI_mem nd (h q (List.mem_cons_self ..))]
    exact aux cs fun _ h => h
  rw [this]
theorem fm_map {α β γ : Type} {f : α → β} {g : β → Option γ} {h : α → γ} (e : ∀ x, g (f x) = some (h x)) : ∀ l : List α, (l.map f).filterMap g = l.map h
  | [] => rfl
  | x :: l => by rw [List.map_cons, List.filterMap_cons_some (e x), fm_map e l, List.map_cons]
theorem fm_none {α β γ : Type} {f : α → β} {g : β → Option γ} (e : ∀ x, g (f x) = none) (l : List α) : (l.map f).filterMap g = [] := by
  refine List.filterMap_eq_nil_iff.mpr fun y hy => ?_
  obtain ⟨x, _, rfl⟩ := List.mem_map.mp hy
  exact e x
theorem hds0_cells (cs : List (Str × Int)) (ls : List Str) (hs : List (Str × Int)) : cellsOf (hds0 cs ls hs) = (srt (cs.map (·.1))).map fun z => (z, lookI cs z) := by
  unfold cellsOf hds0
  rw [List.filterMap_append, List.filterMap_append, fm_map (f := fun z => Hd.cell z (lookI cs z)) (g := isCell) (h := fun z => (z, lookI cs z)) (fun _ => rfl), fm_none (fun _ => rfl), fm_none (fun _ => rfl), List.append_nil, List.append_nil]
theorem hds0_chans (cs : List (Str × Int)) (ls : List Str) (hs : List (Str × Int)) : chansOf (hds0 cs ls hs) = (srt (hs.map (·.1))).map fun z => (z, lookI hs z) := by
  unfold chansOf hds0
  rw [List.filterMap_append, List.filterMap_append, fm_none (fun _ => rfl), fm_none (fun _ => rfl), fm_map (f := fun z => Hd.chan z (lookI hs z)) (g := isChan) (h := fun z => (z, lookI hs z)) (fun _ => rfl), List.append_nil, List.nil_append]
theorem hds0_locks (cs : List (Str × Int)) (ls : List Str) (hs : List (Str × Int)) : locksOf (hds0 cs ls hs) = ls := by
  unfold locksOf hds0
  rw [List.filterMap_append, List.filterMap_append, fm_none (fun _ => rfl), fm_map (f := Hd.lock) (g := isLock) (h := fun z => z) (fun _ => rfl), fm_none (fun _ => rfl), List.append_nil, List.nil_append, List.map_id']
theorem hds0_len {cs : List (Str × Int)} {ls : List Str} {hs : List (Str × Int)} : (hds0 cs ls hs).length = cs.length + ls.length + hs.length := by
  unfold hds0
  rw [List.length_append, List.length_append, List.length_map, List.length_map, List.length_map, srt_len, srt_len, List.length_map, List.length_map]
/-- heads that tell a program's cells, locks and channels -/
structure Tells (hds : List Hd) (cs : List (Str × Int)) (ls : List Str) (hs : List (Str × Int)) : Prop where
  c : (cellsOf hds).Perm cs
  l : locksOf hds = ls
  h : (chansOf hds).Perm hs
theorem Tells.of {cs : List (Str × Int)} {ls : List Str} {hs : List (Str × Int)} (nc : (cs.map (·.1)).Nodup) (nh : (hs.map (·.1)).Nodup) : Tells (hds0 cs ls hs) cs ls hs :=
  ⟨by rw [hds0_cells]; exact look_perm nc, hds0_locks .., by rw [hds0_chans]; exact look_perm nh⟩
theorem Tells.turn {hds hds' : List Hd} {cs : List (Str × Int)} {ls : List Str} {hs : List (Str × Int)} (t : Tells hds cs ls hs) (u : Turn hds hds') : Tells hds' cs ls hs :=
  ⟨u.cells.trans t.c, u.locks.trans t.l, u.chans.trans t.h⟩
/-- which words a program has -/
theorem Wd.of {z : Str} (h : (decide (tl z ≠ []) && (tl z).all fun c => !isSep c) = true) : Wd z := by
  rw [Bool.and_eq_true, List.all_eq_true] at h
  exact ⟨of_decide_eq_true h.1, fun c hc => by simpa using h.2 c hc⟩
theorem cw_Wd : ∀ (n : Nat) (d : PyData), cOk n d = true → isCalcD d = true → ∀ z ∈ cwD d, Wd z := by
  intro n
  induction n with
  | zero =>
    intro d h hc z hz
    rcases cOk_inv h with ⟨i, rfl⟩ | ⟨y, rfl⟩ | ⟨m, k, a, b, e, _⟩
    · rw [List.mem_singleton.mp hz]; exact Wd.int i
    · rw [List.mem_singleton.mp hz]; exact Wd.name hc
    · exact absurd e (by omega)
  | succ n ih =>
    intro d h hc z hz
    rcases cOk_inv h with ⟨i, rfl⟩ | ⟨y, rfl⟩ | ⟨m, k, a, b, e, rfl, ca, cb⟩
    · rw [List.mem_singleton.mp hz]; exact Wd.int i
    · rw [List.mem_singleton.mp hz]; exact Wd.name hc
    · cases e
      have hc : (isKindD (.str k) && (isCalcD a && isCalcD b)) = true := hc
      simp only [Bool.and_eq_true] at hc
      have hk : k = "sum" ∨ k = "minus" ∨ k = "less" := of_decide_eq_true hc.1
      have hz : z ∈ (([("(" : Str), k] ++ cwD a) ++ cwD b) ++ [(")" : Str)] := hz
      simp only [List.mem_append, List.mem_cons, List.not_mem_nil, or_false] at hz
      rcases hz with (((rfl | rfl) | hz) | hz) | rfl
      · exact Wd.of (by decide +kernel)
      · rcases hk with rfl | rfl | rfl <;> exact Wd.of (by decide +kernel)
      · exact ih a ca hc.2.1 z hz
      · exact ih b cb hc.2.2 z hz
      · exact Wd.of (by decide +kernel)
theorem word_Wd {z : Str} {ks : List Str} (h : kindsOf z = some ks) : Wd z := by
  have : ∀ q ∈ partsL, (decide (tl q.1 ≠ []) && (tl q.1).all fun c => !isSep c) = true := by decide +kernel
  exact Wd.of (this _ (kindsOf_mem h))
theorem bw_Wd : ∀ (n : Nat) (rows : List PyData), rowsRd n rows → ∀ z ∈ bwD n rows, Wd z
  | 0, rows, h, z, hz => by cases hz
  | n + 1, rows, h, z, hz => by
    obtain ⟨r, hr, hz⟩ := List.mem_flatMap.mp hz
    obtain ⟨w, ks, ds, ⟨er, hk, hl, hb, hc⟩, hlf⟩ := h r hr
    rw [er, rowW_eq hk] at hz
    rcases List.mem_cons.mp hz with rfl | hz
    · exact word_Wd hk
    · obtain ⟨q, hq, hz⟩ := List.mem_flatMap.mp hz
      unfold partW at hz
      split at hz
      · rename_i hbd
        obtain ⟨bs, eb, hp⟩ := hb q hq hbd
        rw [eb] at hz
        simp only [List.mem_append, List.mem_cons, List.not_mem_nil, or_false] at hz
        rcases hz with (rfl | hz) | rfl
        · exact Wd.of (by decide +kernel)
        · exact bw_Wd n bs hp z hz
        · exact Wd.of (by decide +kernel)
      · rename_i hbd
        have h1 := hlf q hq hbd
        have h2 := hc q hq hbd
        unfold LeafR at h1
        split at h1
        · exact cw_Wd 22 q.2 h2 h1 z hz
        · split at h1
          · obtain ⟨i, ei, _⟩ := h1
            rw [ei] at hz
            rw [List.mem_singleton.mp hz]
            exact Wd.int i
          · obtain ⟨y, ey, hy⟩ := h1
            rw [ey] at hz
            rw [List.mem_singleton.mp hz]
            exact Wd.name hy
theorem hd_Wd {hds : List Hd} (h : ∀ x ∈ hds, isNameL (hdName x) = true) : ∀ z ∈ hds.flatMap hdW, Wd z := by
  intro z hz
  obtain ⟨x, hx, hz⟩ := List.mem_flatMap.mp hz
  have hn := Wd.name (h x hx)
  cases x with
  | cell y v =>
    have hz : z ∈ [("cell" : Str), y, intS v] := hz
    simp only [List.mem_cons, List.not_mem_nil, or_false] at hz
    rcases hz with rfl | rfl | rfl
    · exact Wd.name (by decide +kernel)
    · exact hn
    · exact Wd.int v
  | lock y =>
    have hz : z ∈ [("lock" : Str), y] := hz
    simp only [List.mem_cons, List.not_mem_nil, or_false] at hz
    rcases hz with rfl | rfl
    · exact Wd.name (by decide +kernel)
    · exact hn
  | chan y v =>
    have hz : z ∈ [("channel" : Str), y, intS v] := hz
    simp only [List.mem_cons, List.not_mem_nil, or_false] at hz
    rcases hz with rfl | rfl | rfl
    · exact Wd.of (by decide +kernel)
    · exact hn
    · exact Wd.int v
section
variable {P : Program} {w : World} {K : PySem.W.Frag} {mg : Str → Option Value} {base : Heap}
def spMade (K : PySem.W.Frag) (C0 : Addr) : Sp := fun vs H Q _ => ∃ (d g c pl C L Ch W : Addr) (cs : List (Str × Int)) (ls : List Str) (hs : List (Str × Int)) (ws : List Str) (k : Nat) (v : V) (rows : List PyData), vs = [.ref pl, v] ∧ Play H d g c pl C L Ch W cs ls hs ws k ∧ Nm cs ls hs ws ∧ Dp K H v (.tuple rows) ∧ Rt2 (cs.map (·.1)) ls (hs.map (·.1)) rows ∧
  ∀ p H', Same H H' → Pf K H H' p C0 cs ls hs rows (placesD 22 rows []) → Q (.ref p) H'
theorem ok_made (T : Tp K w mg) : FnOk P w K mg base CX0 53 T.f_made T.fd_made ["_law_play", "_law_rows"] (spMade K T.C_Program) := by
  refine T.D_made.F.ok sc_made (fun vs H Q E h => ?_) (fun cdv A outer s H vs Q E hr h => ?_)
  · obtain ⟨d, g, c, pl, C, L, Ch, W, cs, ls, hs, ws, k, v, rows, rfl, _⟩ := h
    rfl
  · obtain ⟨d, g, c, pl, C, Lk, Ch, W, cs, ls, hs, ws, k, v, rows, rfl, Y, N, hd, R, q⟩ := h
    have hu := hu_of hr
    refine ⟨_, (pss_one (ps_ret (pe_makeK T.mk_Program (ok_prog T 22 (by decide)) (hr.mono (by omega)) (by rfl) T.gC_Program (kb_prog T) passN (pa_cons (pv 1) pa_nil) (pk_cons (pe_dget hu (pv 0) pe_str (fun _ _ => rfl)) (pk_cons (pe_dget hu (pv 0) pe_str (fun _ _ => rfl)) (pk_cons (pe_dget hu (pv 0) pe_str (fun _ _ => rfl)) pk_nil)))))), ?_⟩
    refine ⟨_, rfl, _, rfl, pl, _, rfl, DGet.k (k := Sum.inr "cells") Y.hpl, _, rfl, pl, _, rfl, DGet.k (k := Sum.inr "locks") Y.hpl, _, rfl, pl, _, rfl, DGet.k (k := Sum.inr "channels") Y.hpl, rfl, rfl, fun x dx nx ndx nxd => ?_⟩
    exact made2 N.cells N.locksD N.locks N.lfew N.lanes R hd (.inr ⟨C, rfl, Y.hC⟩) (.inr ⟨Lk, rfl, Y.hL⟩) (.inr ⟨Ch, rfl, Y.hCh⟩) nx ndx fun H6 s6 G => ⟨rfl, q x H6 s6 G⟩
end
end TP
namespace TP
open PySem PySem.Spec PyProof.Rows L2 HX HB HG HU HH HD HS HV HQ HK HN HJ TL HM HP HR HO HC HF
theorem Pf.pg {K : PySem.W.Frag} {H0 H : Hp} {p C : Addr} {cs : List (Str × Int)} {ls : List Str} {hs : List (Str × Int)} {rows : List PyData} {spots : List (List Int)} (g : Pf K H0 H p C cs ls hs rows spots) (S1 : Sz cs (-99) 99) (S2 : Sz hs 1 4) (lf : ls.length ≤ 4) (ln : ∀ z ∈ ls, isNameL z = true) (ro : rowsOk 12 rows) (hw : wtAll rows ≤ 30000) : Pg K H0 H p C cs ls hs rows := by
  obtain ⟨⟨dx, s, f, l, wd, b, vs, hp, hb, hs', hPL, hf, hl, hwd, n1, n2, n3, n4, n5⟩, t⟩ := g
  exact ⟨⟨dx, _, b, f, l, wd, hp, rfl, rfl, rfl, rfl, hb, hf, hl, hwd, n1, n3, n4, n5⟩, S1, S2, lf, ln, ro, hw, t⟩
/-- a dict that tells where cells, locks and channels are -/
structure Head11 (H : Hp) (pl C L Ch : Addr) (cs : List (Str × Int)) (ls : List Str) (hs : List (Str × Int)) : Prop where
  c : ∀ H', Same H H' → DGet H' pl (.str "cells") (some (.ref C))
  l : ∀ H', Same H H' → DGet H' pl (.str "locks") (some (.ref L))
  h : ∀ H', Same H H' → DGet H' pl (.str "channels") (some (.ref Ch))
  hC : H C = some (.dK (dI cs))
  hL : H L = some (.lst (ls.map V.str))
  hCh : H Ch = some (.dK (dI hs))
theorem Head11.of {H : Hp} {d g c pl C L Ch W : Addr} {cs : List (Str × Int)} {ls : List Str} {hs : List (Str × Int)} {ws : List Str} {k : Nat} (Y : Play H d g c pl C L Ch W cs ls hs ws k) : Head11 H pl C L Ch cs ls hs :=
  ⟨fun _ s => DGet.k (k := Sum.inr "cells") (s _ _ Y.hpl), fun _ s => DGet.k (k := Sum.inr "locks") (s _ _ Y.hpl), fun _ s => DGet.k (k := Sum.inr "channels") (s _ _ Y.hpl), Y.hC, Y.hL, Y.hCh⟩
theorem join_short {s : Str} (hs : s.length = 1) : ∀ zs : List Str, (Str.join s zs).length ≤ wl zs
  | [] => Nat.zero_le _
  | [z] => by show z.length ≤ z.length + 1 + 0; omega
  | z :: y :: r => by
    have := join_short hs (y :: r)
    show (z ++ s ++ Str.join s (y :: r)).length ≤ z.length + 1 + wl (y :: r)
    rw [strLen_append, strLen_append, hs]
    omega
theorem wl_text {K : PySem.W.Frag} {H0 H : Hp} {p C : Addr} {cs : List (Str × Int)} {ls : List Str} {hs : List (Str × Int)} {rows : List PyData} (g : Pg K H0 H p C cs ls hs rows) : (textW cs ls hs rows).length ≤ 30500 := by
  unfold textW
  rw [join_eq]
  exact Nat.le_trans (join_short rfl _) g.wl
theorem hd_count : ∀ hds : List Hd, hds.length = (cellsOf hds).length + (locksOf hds).length + (chansOf hds).length
  | [] => rfl
  | .cell z v :: hds => by
    have := hd_count hds
    show hds.length + 1 = ((z, v) :: cellsOf hds).length + (locksOf hds).length + (chansOf hds).length
    rw [List.length_cons]; omega
  | .lock z :: hds => by
    have := hd_count hds
    show hds.length + 1 = (cellsOf hds).length + (z :: locksOf hds).length + (chansOf hds).length
    rw [List.length_cons]; omega
  | .chan z v :: hds => by
    have := hd_count hds
    show hds.length + 1 = (cellsOf hds).length + (locksOf hds).length + ((z, v) :: chansOf hds).length
    rw [List.length_cons]; omega
theorem flat_wl (hds : List Hd) : wl (hds.flatMap hdW) = (hds.map fun h => wl (hdW h)).sum := by
  induction hds with
  | nil => rfl
  | cons h hds ih => rw [List.flatMap_cons, wl_app, ih, List.map_cons, List.sum_cons]
theorem hd_wl {h : Hd} (hn : isNameL (hdName h) = true) (hv : ∀ v : Int, (∃ z, h = .cell z v) ∨ (∃ z, h = .chan z v) → v.natAbs ≤ 10 ^ 13) : wl (hdW h) ≤ 40 := by
  have h3 := (name_len hn).2
  cases h with
  | cell z v =>
    have := int_len (hv v (.inl ⟨z, rfl⟩))
    have h3 : z.length ≤ 6 := h3
    have e : wl (hdW (.cell z v)) = 5 + (z.length + 1 + ((intS v).length + 1 + 0)) := rfl
    omega
  | lock z =>
    have h3 : z.length ≤ 6 := h3
    have e : wl (hdW (.lock z)) = 5 + (z.length + 1 + 0) := rfl
    omega
  | chan z v =>
    have := int_len (hv v (.inr ⟨z, rfl⟩))
    have h3 : z.length ≤ 6 := h3
    have e : wl (hdW (.chan z v)) = 8 + (z.length + 1 + ((intS v).length + 1 + 0)) := rfl
    omega
theorem sum_le40 : ∀ {l : List Hd}, (∀ h ∈ l, wl (hdW h) ≤ 40) → (l.map fun h => wl (hdW h)).sum ≤ 40 * l.length
  | [], _ => Nat.le_refl _
  | h :: l, k => by
    have h1 := k h (List.mem_cons_self ..)
    have h2 := sum_le40 (l := l) fun x hx => k x (List.mem_cons_of_mem _ hx)
    rw [List.map_cons, List.sum_cons, List.length_cons]
    omega
/-- names and numbers of heads -/
theorem tell_ok {hds : List Hd} {cs : List (Str × Int)} {ls : List Str} {hs : List (Str × Int)} (t : Tells hds cs ls hs) (S1 : Sz cs (-99) 99) (S2 : Sz hs 1 4) (ln : ∀ z ∈ ls, isNameL z = true) : ∀ h ∈ hds, isNameL (hdName h) = true ∧ wl (hdW h) ≤ 40 := by
  intro h hh
  cases h with
  | cell z v =>
    have hm : (z, v) ∈ cs := t.c.mem_iff.mp (List.mem_filterMap.mpr ⟨_, hh, rfl⟩)
    have hr := S1.rng _ hm
    refine ⟨S1.names _ hm, hd_wl (S1.names _ hm) fun v' hv => ?_⟩
    rcases hv with ⟨_, e⟩ | ⟨_, e⟩ <;> cases e
    exact wt_range (by have := hr.1; have := hr.2; omega)
  | lock z =>
    have hm : z ∈ ls := by rw [← t.l]; exact List.mem_filterMap.mpr ⟨_, hh, rfl⟩
    exact ⟨ln _ hm, hd_wl (ln _ hm) fun v' hv => by rcases hv with ⟨_, e⟩ | ⟨_, e⟩ <;> cases e⟩
  | chan z v =>
    have hm : (z, v) ∈ hs := t.h.mem_iff.mp (List.mem_filterMap.mpr ⟨_, hh, rfl⟩)
    have hr := S2.rng _ hm
    refine ⟨S2.names _ hm, hd_wl (S2.names _ hm) fun v' hv => ?_⟩
    rcases hv with ⟨_, e⟩ | ⟨_, e⟩ <;> cases e
    exact wt_range (by have := hr.1; have := hr.2; omega)
section
variable {P : Program} {w : World} {K : PySem.W.Frag} {mg : Str → Option Value} {base : Heap}
def spLaw (K : PySem.W.Frag) : Sp := fun vs H Q _ => ∃ (a : Addr) (ns : List Int), vs = [.ref a] ∧ SqL K H a (ns.map V.int) ∧ ns.length ≤ 63 ∧ ∀ H', Q (.bl true) H'
theorem ok_law {f : Addr} {fd : FuncData} (F : Fun K "law" "law" s_law f fd) (T : Tp K w mg) : FnG P w K mg base CX0 64 f fd ["_law_script"] (spLaw K) := by
  refine okGn F sc_law (fun vs H Q E h => ?_) (fun cdv A outer s H vs Q E sh hr h => ?_)
  · obtain ⟨a, ns, rfl, _⟩ := h
    rfl
  · obtain ⟨a, ns, rfl, hS, hl, fin⟩ := h
    have hu := hu_of hr
    refine ⟨_, (pss_cons (ps_set (i := 1) sc_law.nd rfl (.inl rfl) (pcall T.D_begun (ok_begun T) (hr.mono (by omega)) (by rfl) (pa_cons (pv 0) pa_nil)))
  (pss_cons (ps_asg (pcall T.D_drawn (ok_drawn T) (hr.mono (by omega)) (by rfl) (pa_cons (pv 1) pa_nil)) (pg_tup rfl (pgs_cons (pg_name (i := 2) sc_law.nd rfl (.inl rfl)) (pgs_cons (pg_name (i := 3) sc_law.nd rfl (.inl rfl)) pgs_nil))))
  (pss_cons (ps_set (i := 4) sc_law.nd rfl (.inl rfl) (pcall T.D_made (ok_made T) (hr.mono (by omega)) (by rfl) (pa_cons (pv 2) (pa_cons (pv 3) pa_nil))))
  (pss_cons (ps_set (i := 5) sc_law.nd rfl (.inl rfl) (pe_lst pa_nil))
  (pss_cons (ps_for PassesOwn.never rfl (pi_list (pcall T.D_turned (ok_turned T) (hr.mono (by omega)) (by rfl) (pa_cons (pv 1) (pa_cons (pcall T.D_heads (ok_heads T) (hr.mono (by omega)) (by rfl) (pa_cons (pv 2) pa_nil)) pa_nil)))) (pg_name (i := 6) sc_law.nd rfl (.inl rfl))
  (pss_one (ps_set (i := 5) sc_law.nd rfl (.inl rfl) (pe_op op_cat (pv 5) (pv 6)))))
  (pss_cons (ps_for PassesOwn.never rfl (pi_list (pe_lst (pa_cons (pcall T.D_joined (ok_joined T) (hr.mono (by omega)) (by rfl) (pa_cons (pv 1) (pa_cons (pe_op op_cat (pv 5) (pcall T.D_lwords (ok_lwords T 12) (hr.mono (by omega)) (by rfl) (pa_cons (pv 3) pa_nil))) pa_nil))) (pa_cons (pcall T.D_ptext (ok_ptext T) (hr.mono (by omega)) (by rfl) (pa_cons (pv 4) pa_nil)) pa_nil)))) (pg_name (i := 7) sc_law.nd rfl (.inl rfl))
  (pss_cons (ps_set (i := 8) sc_law.nd rfl (.inl rfl) (pcall T.D_lread (ok_lread T) (hr.mono (by omega)) (by rfl) (pa_cons (pv 7) pa_nil)))
  (pss_cons (ps_if (PW.pt (pw_or (pt_not (pt_val (pe_callB call_isi (by rfl) T.isinstance (by decide +kernel) (pa_cons (pv 8) (pa_cons (pe_gr (by rfl) T.gC_Program) pa_nil))))) (pw_or (pt_not (pt_cmpR (HC.op_eqO T.m_peq (ok_peq T) (hr.mono (by omega)) T.b_peq pass0) (pv 8) (pv 4) (nomark _))) (pw_or1 (pt_cmpR (op_neD hr.units) (pe_meth0 (pv 8) T.cl_Program T.m_pbody (ok_pbody T) (hr.mono (by omega)) T.b_pbody .nil pass0) (pv 3) (nomark _))))))
  (pss_one (ps_ret pe_bl))
  pss_nil)
  (pss_cons (ps_if (pt_cmpR (HF.op_neM (HF.u70 hr)) (pe_tup (pa_cons (pe_meth0 (pv 8) T.cl_Program T.m_pcells (ok_pcells T) (hr.mono (by omega)) T.b_pcells .nil pass0) (pa_cons (pe_meth0 (pv 8) T.cl_Program T.m_plocks (ok_plocks T) (hr.mono (by omega)) T.b_plocks .nil pass0) (pa_cons (pe_meth0 (pv 8) T.cl_Program T.m_pchans (ok_pchans T) (hr.mono (by omega)) T.b_pchans .nil pass0) pa_nil)))) (pe_tup (pa_cons (pe_dget hu (pv 2) pe_str (fun _ _ => rfl)) (pa_cons (pe_dget hu (pv 2) pe_str (fun _ _ => rfl)) (pa_cons (pe_dget hu (pv 2) pe_str (fun _ _ => rfl)) pa_nil)))) (nomark _))
  (pss_one (ps_ret pe_bl))
  pss_nil)
  (pss_one (ps_if (PW.pt (pw_or (pt_cmpR (op_neD hr.units) (pe_meth0 (pv 8) T.cl_Program T.m_pplaces (ok_pplaces T) (hr.mono (by omega)) T.b_pplaces .nil pass0) (pe_meth0 (pv 4) T.cl_Program T.m_pplaces (ok_pplaces T) (hr.mono (by omega)) T.b_pplaces .nil pass0) (nomark _)) (pw_or (pt_cmpR op_ne (pe_callB (HC.call_lenO T.m_plen (ok_plen T) (hr.mono (by omega)) T.b_plen pass0) (by rfl) T.len PySem.boot_len (pa_cons (pv 8) pa_nil)) (pe_callB (HC.call_lenO T.m_plen (ok_plen T) (hr.mono (by omega)) T.b_plen pass0) (by rfl) T.len PySem.boot_len (pa_cons (pv 4) pa_nil)) (nomark _)) (pw_or1 (pt_cmpR op_ne (pcall T.D_ptext (ok_ptext T) (hr.mono (by omega)) (by rfl) (pa_cons (pv 8) pa_nil)) (pcall T.D_ptext (ok_ptext T) (hr.mono (by omega)) (by rfl) (pa_cons (pv 4) pa_nil)) (nomark _))))))
  (pss_one (ps_ret pe_bl))
  pss_nil))))))
  (pss_one (ps_ret pe_bl)))))))), ?_⟩
    refine ⟨_, rfl, a, ns, rfl, hS, hl, fun d g c H1 s1 nd ng D1 => ?_⟩
    refine ⟨_, rfl, d, g, c, rfl, D1, fun t pl C Lk Ch W cs ls hs ws v rows m0 k' H2 N ht hv hR h60 h18 D2 Y2 npl u2 => ?_⟩
    refine ⟨t, _, rfl, ht, rfl, _, _, rfl, _, _, rfl, rfl, ?_⟩
    have R : Rt2 (cs.map (·.1)) ls (hs.map (·.1)) rows := Rt2.of hR h60 (by omega)
    refine ⟨_, rfl, _, rfl, d, g, c, pl, C, Lk, Ch, W, cs, ls, hs, ws, k', v, rows, rfl, Y2, N, hv, R, fun p1 H3 s3 G3 => ?_⟩
    refine ⟨Nat.zero_le _, fun w0 nw0 => ?_⟩
    have s4 := same_upd (o := .lst []) nw0
    have hw0 : (upd H3 w0 (.lst [])) w0 = some (.lst (([] : List Str).map V.str)) := upd_same
    show tSeq _ _ _ _ (upd H3 w0 (.lst []))
    generalize upd H3 w0 (.lst []) = H4 at s4 hw0 ⊢
    have s24 := s3.trans s4
    have D4 := D2.same s24
    have Y4 := Y2.same s24
    have T0 : Tells (hds0 cs ls hs) cs ls hs := Tells.of N.cells.nd N.lanes.nd
    have l0 : (hds0 cs ls hs).length ≤ 12 := by
      rw [hds0_len]
      have := N.cells.few
      have := N.lfew
      have := N.lanes.few
      omega
    -- the heads, turned
    refine ⟨_, rfl, _, rfl, d, g, c, pl, C, Lk, Ch, W, cs, ls, hs, ws, k', rfl, Y4, N, fun hp us H5 nhp s5 hus hll => ?_⟩
    rw [← hds0_W] at hll
    have D5 := D4.same s5
    have ahp := D4.apart nhp
    refine ⟨d, g, c, hp, us, hds0 cs ls hs, rfl, D5, hus, ahp.1, ahp.2.1, hll, by omega, fun p6 us6 hds' H6 n6 D6 u6 h6 ll6 tn => ⟨p6, rfl, ⟨_, sl h6⟩, ?_⟩⟩
    have T1 := T0.turn tn
    have l1 : hds'.length ≤ 12 := by rw [tn.len]; exact l0
    have u46 : Up d g H4 H6 := (Up.of s5).trans u6
    have u26 : Up d g H2 H6 := (Up.of s24).trans u46
    have aw0 := (D2.same s3).apart nw0
    have hw6 := u46 _ _ hw0 aw0.1 aw0.2.1
    have ul := ll6.len
    rw [List.length_map] at ul
    have ok1 := tell_ok T1 N.cells N.lanes N.locks
    have cap : ∀ k, ((hds'.take k).flatMap hdW).length ≤ 480 := fun k => by
      have h1 := wl_len ((hds'.take k).flatMap hdW)
      rw [flat_wl] at h1
      have h2 := sum_le40 (l := hds'.take k) fun h hh => (ok1 h (List.mem_of_mem_take hh)).2
      rw [List.length_take] at h2
      omega
    refine for_it (walk_list (xs := us6)) (fun i σ H7 => ∃ (w5 : Addr) (y6 : Option V), σ = [some (.ref a), some (.ref d), some (.ref pl), some v, some (.ref p1), some (.ref w5), y6, none, none] ∧ Same H6 H7 ∧ H7 w5 = some (.lst (((hds'.take i).flatMap hdW).map V.str)) ∧ w5 ≠ d ∧ w5 ≠ g) ?_ (fun i σ H7 _ g => by obtain ⟨_, _, _, sm, _⟩ := g; exact sl (sm _ _ h6)) ?_ ?_
    · exact ⟨w0, none, rfl, Same.refl _, hw6, aw0.1, aw0.2.1⟩
    · rintro i σ x H7z H7 hi ⟨w5, y6, rfl, sm, hw5, nd5, ng5⟩ ⟨rfl, gx⟩
      obtain ⟨b, zs, rfl, hz, hb⟩ := ll6.at_ gx
      have hih : i < hds'.length := by omega
      rw [List.getElem?_map, List.getElem?_eq_getElem hih] at hz
      cases hz
      have tk : (hds'.take (i + 1)).flatMap hdW = (hds'.take i).flatMap hdW ++ hdW hds'[i] := by
        rw [List.take_add_one, List.getElem?_eq_getElem hih, List.flatMap_append]
        show _ ++ (hdW hds'[i] ++ []) = _
        rw [List.append_nil]
      have c1 := cap (i + 1)
      rw [tk, List.length_append] at c1
      refine ⟨_, rfl, _, rfl, catS hw5 (sm _ _ hb) (by omega) fun p8 H8 n8 s8 h8 => ?_⟩
      have a8 := (D6.same sm).apart n8
      exact ⟨p8, _, rfl, sm.trans s8, by rw [tk]; exact h8, a8.1, a8.2.1⟩
    rintro σ H7 ⟨w5, y6, rfl, s67, hw5, nd5, ng5⟩
    rw [ul, List.take_length] at hw5
    have D7 := D6.same s67
    have u27 : Up d g H2 H7 := u26.trans (Up.of s67)
    have up_dp : ∀ {H' : Hp}, Up d g H2 H' → Dp K H' v (.tuple rows) := fun u => dp_keep (fun _ _ h => u.sqt D2 h) (show tupD (.tuple rows) = true from R.t) hv
    have rk : rowsOk 12 rows := hR.rowsOk (by omega)
    have rd : rowsRd 12 rows := hR.rowsRd (by omega)
    have hwt : wtAll rows ≤ 30000 := Nat.le_trans hR.wt (by omega)
    have lb := wl_bw 12 rows rk (Nat.lt_of_le_of_lt hwt (by decide))
    have lb2 := wl_len (bwD 12 rows)
    -- the texts
    refine ⟨_, rfl, _, rfl, _, rfl, v, rows, rfl, up_dp u27, rk, Nat.le_trans hwt (by decide), fun p8 H8 n8 s8 h8 => ?_⟩
    have c1 := cap hds'.length
    rw [List.take_length] at c1
    refine catS (s8 _ _ hw5) h8 (by omega) fun p9 H9 n9 s9 h9 => ?_
    have s79 := s8.trans s9
    have D9 := D7.same s79
    have a9 := (D7.same s8).apart n9
    have wl1 : wl (hds'.flatMap hdW ++ bwD 12 rows) ≤ 100000 := by
      rw [wl_app, flat_wl]
      have h2 := sum_le40 (l := hds') fun h hh => (ok1 h hh).2
      omega
    refine ⟨d, g, c, p9, _, rfl, D9, h9, a9.1, a9.2.1, ?_, wl1, fun t1 H10 D10 u10 wt1 lt1 => ?_⟩
    · intro z hz
      rcases List.mem_append.mp hz with hz | hz
      · exact hd_Wd (fun h hh => (ok1 h hh).1) z hz
      · exact bw_Wd 12 rows rd z hz
    have u2A : Up d g H2 H10 := (u27.trans (Up.of s79)).trans u10
    have G10 : Pf K H2 H10 p1 T.C_Program cs ls hs rows (placesD 22 rows []) := by
      refine G3.keep (fun b o h n => ?_) fun _ _ h => ?_
      · have ab := D2.apart n
        exact u10 _ _ (s79 _ _ (s67 _ _ (u6 _ _ (s5 _ _ (s4 _ _ h)) ab.1 ab.2.1))) ab.1 ab.2.1
      · exact u10.sqt D9 (s79.sqt (s67.sqt (u6.sqt D5 (s5.sqt (s4.sqt h)))))
    have Pg10 := G10.pg N.cells N.lanes N.lfew N.locks rk hwt
    refine ⟨_, rfl, H2, p1, cs, ls, hs, rows, rfl, Pg10, fun H11 s11 => ?_⟩
    have Y11 : Play H11 d g c pl C Lk Ch W cs ls hs ws k' := (Y2.up u2A).same s11
    have HD : Head11 H11 pl C Lk Ch cs ls hs := Head11.of Y11
    have hv11 : Dp K H11 v (.tuple rows) := s11.dp (up_dp u2A)
    have G11 := G10.same s11
    have t2w : wordsOf (textW cs ls hs rows) = (hds0 cs ls hs).flatMap hdW ++ bwD 12 rows := by
      rw [hds0_flat]
      unfold textW
      refine words_join fun z hz => ?_
      rcases List.mem_append.mp hz with hz | hz
      · rw [← hds0_flat] at hz
        exact hd_Wd (fun h hh => (tell_ok T0 N.cells N.lanes N.locks h hh).1) z hz
      · exact bw_Wd 12 rows rd z hz
    have lt2 : (textW cs ls hs rows).length ≤ 10 ^ 6 := by
      have := wl_text Pg10
      rw [six]
      omega
    have sho : SeqAt.shaped (.list (ls.map .str)) = true := strs_shaped N.locks (by have := N.lfew; omega)
    have shr : SeqAt.shaped (.tuple rows) = true := R.g.shaped (by decide)
    have h60' : (placesD 22 rows []).length ≤ 60 := by rw [places_len]; exact R.c
    have eRows : PyData.eqv (.tuple rows) (.tuple rows) = true := eqv_refl (show tupD (.tuple rows) = true from R.t)
    have eL : PyData.eqv (.list (ls.map .str)) (.list (ls.map .str)) = true := by
      show PyData.eqvAll _ _ = true
      rw [eqv_strs, decide_eq_true rfl]
    clear up_dp u27 D7 u26 D6 u46 hw6 aw0 D5 ahp h9 hw5 h8 hll ll6 hus h6 a9 cap
    refine ⟨by show 2 ≤ sizeLine; decide, fun tl2 ntl2 => ⟨tl2, rfl, ⟨_, sl upd_same⟩, ?_⟩⟩
    have s12 := same_upd (o := .lst [V.str t1, V.str (textW cs ls hs rows)]) ntl2
    have h12 : (upd H11 tl2 (.lst [V.str t1, V.str (textW cs ls hs rows)])) tl2 = some (.lst [V.str t1, V.str (textW cs ls hs rows)]) := upd_same
    show ∃ W', _
    generalize upd H11 tl2 (.lst [V.str t1, V.str (textW cs ls hs rows)]) = H12 at s12 h12 ⊢
    refine for_it (walk_list (xs := [V.str t1, V.str (textW cs ls hs rows)])) (fun i σ H' => ∃ (y6 y7 y8 : Option V), σ = [some (.ref a), some (.ref d), some (.ref pl), some v, some (.ref p1), some (.ref w5), y6, y7, y8] ∧ Same H12 H') ⟨_, _, _, rfl, Same.refl _⟩ (fun i σ H' _ g => by obtain ⟨_, _, _, _, sm⟩ := g; exact sl (sm _ _ h12)) ?_ ?_
    · rintro i x σ Hz H13 hi ⟨y6, y7, y8, rfl, sm⟩ ⟨rfl, gx⟩
      obtain ⟨t, hds, rfl, Tl, wt, lt⟩ : ∃ t hds, x = V.str t ∧ Tells hds cs ls hs ∧ wordsOf t = hds.flatMap hdW ++ bwD 12 rows ∧ t.length ≤ 10 ^ 6 := by
        match i, gx with
        | 0, gx => cases gx; exact ⟨t1, hds', rfl, T1, wt1, lt1⟩
        | 1, gx => cases gx; exact ⟨_, hds0 cs ls hs, rfl, T0, t2w, lt2⟩
        | n + 2, gx => simp at gx
      have s13 := s12.trans sm
      have S1 := N.cells.perm Tl.c
      have S2 := N.lanes.perm Tl.h
      have okt := tell_ok Tl N.cells N.lanes N.locks
      have R' : Rt2 ((cellsOf hds).map (·.1)) (locksOf hds) ((chansOf hds).map (·.1)) rows := R.cong (fun z => ((Tl.c.map (·.1)).mem_iff).symm) (fun z => by rw [Tl.l]) fun z => ((Tl.h.map (·.1)).mem_iff).symm
      have lwo : (wordsOf t).length ≤ 10 ^ 6 := by
        have lh : hds.length ≤ 12 := by
          have a1 := filter_two hds
          have a2 : hds.length = (cellsOf hds).length + (locksOf hds).length + (chansOf hds).length := hd_count hds
          have a3 := Tl.c.length_eq
          have a4 := Tl.h.length_eq
          have := N.cells.few
          have := N.lfew
          have := N.lanes.few
          rw [Tl.l] at a2
          omega
        have h1 := wl_len (hds.flatMap hdW)
        rw [flat_wl] at h1
        have h2 := sum_le40 (l := hds) fun h hh => (okt h hh).2
        rw [wt, List.length_append, six]
        omega
      refine ⟨_, rfl, t, hds, rows, rfl, lt, wt, lwo, S1, by rw [Tl.l]; exact N.locksD, by rw [Tl.l]; exact N.locks, by rw [Tl.l]; exact N.lfew, S2, R', rd, Nat.le_trans hwt (by decide), fun p2 H14 s14 G2 => ?_⟩
      rw [Tl.l] at G2
      have s1E := s13.trans s14
      have GA := G11.same s13
      obtain ⟨dx2, _, _, _, _, _, _, hp2, _⟩ := G2.ex
      obtain ⟨dx1, _, _, _, _, _, _, hp1, _⟩ := (GA.same s14).ex
      -- a program
      refine ⟨_, rfl, _, _, _, _, true, rfl, .own T.C_Program, .base (.ins hp2 T.cl_Program T.oc_Program.ha T.oc_Program.hn T.oc_Program.tk T.oc_Program.ob), if_pos (by simp), _, rfl, ?_⟩
      refine iteF ?_
      -- ==
      have eC : dictEq (dI (cellsOf hds)) (dI cs) = true := dictEq_same N.cells.nd Tl.c.length_eq fun q hq => Tl.c.mem_iff.mp hq
      have eH : dictEq (dI (chansOf hds)) (dI hs) = true := dictEq_same N.lanes.nd Tl.h.length_eq fun q hq => Tl.h.mem_iff.mp hq
      have eS : sameP (cellsOf hds) cs ls ls (chansOf hds) hs rows rows = true := by
        unfold sameP
        rw [eRows, eC, eL, eH]
        rfl
      refine ⟨_, rfl, _, rfl, p2, dx2, p1, _, rfl, hp2, rfl, .inl ⟨_, _, hp1⟩, p2, p1, rfl, .inl ⟨_, _, _, _, _, _, _, _, Two.of2 GA s14 G2, shr, shr, sho, sho, fun H15 s15 => ?_⟩⟩
      rw [eS]
      refine ⟨true, rfl, _, rfl, ?_⟩
      refine iteF ?_
      -- the rows
      have s25 := s1E.trans s15
      have G25 := G2.same s15
      refine ⟨_, rfl, p2, dx2, _, rfl, s15 _ _ hp2, rfl, _, p2, _, _, _, _, _, rfl, G25, fun vb hvb => ?_⟩
      refine ⟨_, rfl, .tuple rows, .tuple rows, hvb, s25.dp hv11, shr, shr, _, rfl, ?_⟩
      rw [eRows]
      refine iteF (nx_ ?_)
      -- cells, locks and channels
      refine ⟨_, rfl, p2, dx2, _, rfl, s15 _ _ hp2, rfl, _, p2, _, _, _, _, _, rfl, G25, fun sa nsa => ?_⟩
      have t1' := same_upd (o := .dK (dI (cellsOf hds))) nsa
      have hsa : (upd H15 sa (.dK (dI (cellsOf hds)))) sa = some (.dK (dI (cellsOf hds))) := upd_same
      generalize upd H15 sa (.dK (dI (cellsOf hds))) = J1 at t1' hsa ⊢
      refine ⟨_, rfl, p2, dx2, _, rfl, t1' _ _ (s15 _ _ hp2), rfl, _, p2, _, _, _, _, _, rfl, G25.same t1', fun la nla => ?_⟩
      have t2' := same_upd (o := .lst (ls.map V.str)) nla
      have hla : (upd J1 la (.lst (ls.map V.str))) la = some (.lst (ls.map V.str)) := upd_same
      generalize upd J1 la (.lst (ls.map V.str)) = J2 at t2' hla ⊢
      have t02 := t1'.trans t2'
      refine ⟨_, rfl, p2, dx2, _, rfl, t02 _ _ (s15 _ _ hp2), rfl, _, p2, _, _, _, _, _, rfl, G25.same t02, fun ca nca => ?_⟩
      have t3' := same_upd (o := .dK (dI (chansOf hds))) nca
      have hca : (upd J2 ca (.dK (dI (chansOf hds)))) ca = some (.dK (dI (chansOf hds))) := upd_same
      generalize upd J2 ca (.dK (dI (chansOf hds))) = J3 at t3' hca ⊢
      have t03 := t02.trans t3'
      refine ⟨by show 3 ≤ sizeLine; decide, fun ta nta => ?_⟩
      have t4' := same_upd (o := .tup [.ref sa, .ref la, .ref ca]) nta
      have hta : (upd J3 ta (.tup [.ref sa, .ref la, .ref ca])) ta = some (.tup [.ref sa, .ref la, .ref ca]) := upd_same
      generalize upd J3 ta (.tup [.ref sa, .ref la, .ref ca]) = J4 at t4' hta ⊢
      have t04 := t03.trans t4'
      have e4 := s25.trans t04
      refine ⟨_, rfl, pl, _, rfl, HD.c _ e4, _, rfl, pl, _, rfl, HD.l _ e4, _, rfl, pl, _, rfl, HD.h _ e4, by show 3 ≤ sizeLine; decide, fun tb ntb => ?_⟩
      have t5' := same_upd (o := .tup [.ref C, .ref Lk, .ref Ch]) ntb
      have htb : (upd J4 tb (.tup [.ref C, .ref Lk, .ref Ch])) tb = some (.tup [.ref C, .ref Lk, .ref Ch]) := upd_same
      generalize upd J4 tb (.tup [.ref C, .ref Lk, .ref Ch]) = J5 at t5' htb ⊢
      have e5 := e4.trans t5'
      have t05 := t04.trans t5'
      have q25 : Same J2 J5 := (t3'.trans t4').trans t5'
      have q15 : Same J1 J5 := t2'.trans q25
      have q35 : Same J3 J5 := t4'.trans t5'
      have ne1 : sa ≠ C := fun e => by rw [e, s25 _ _ HD.hC] at nsa; cases nsa
      have ne2 : ca ≠ Ch := fun e => by rw [e, t02 _ _ (s25 _ _ HD.hCh)] at nca; cases nca
      refine ⟨ta, tb, _, _, rfl, rfl, stt (t5' _ _ hta), stt htb, rfl, fun j x y hx hy => ?_, _, rfl, iteF (nx_ ?_)⟩
      · match j, hx, hy with
        | 0, hx, hy =>
          cases hx; cases hy
          rw [← eC]
          exact .dict ne1 (q15 _ _ hsa) (e5 _ _ HD.hC) dI_flat dI_flat
        | 1, hx, hy =>
          cases hx; cases hy
          rw [← eL]
          exact .data (.lst (sl (q25 _ _ hla)) (zs_dp ls)) (.lst (sl (e5 _ _ HD.hL)) (zs_dp ls)) sho sho
        | 2, hx, hy =>
          cases hx; cases hy
          rw [← eH]
          exact .dict ne2 (q35 _ _ hca) (e5 _ _ HD.hCh) dI_flat dI_flat
        | n + 3, hx, hy => simp at hx
      -- places
      have GB := G25.same t05
      have GC := GA.same ((s14.trans s15).trans t05)
      have hp2' := t05 _ _ (s15 _ _ hp2)
      have hp1' := t05 _ _ (s15 _ _ hp1)
      refine ⟨_, rfl, p2, dx2, _, rfl, hp2', rfl, _, p2, _, _, _, _, _, rfl, GB, fun la1 J6 us1 w6 nl1 hl1 hP1 => ?_⟩
      refine ⟨_, rfl, p1, dx1, _, rfl, w6 _ _ hp1', rfl, _, p1, _, _, _, _, _, rfl, GC.same w6, fun la2 J7 us2 w7 nl2 hl2 hP2 => ?_⟩
      refine ⟨.list ((placesD 22 rows []).map plD), .list ((placesD 22 rows []).map plD), .lst (sl (w7 _ _ hl1)) (dpAll_places (hP1.same w7)), .lst (sl hl2) (dpAll_places hP2), shaped_spots _, shaped_spots _, _, rfl, ?_⟩
      rw [show PyData.eqv (.list ((placesD 22 rows []).map plD)) (.list ((placesD 22 rows []).map plD)) = true by show PyData.eqvAll _ _ = true; exact eqvAll_refl (tup_spots _)]
      refine iteF ?_
      -- how many
      have w67 := w6.trans w7
      refine ⟨_, rfl, p2, dx2, _, rfl, w67 _ _ hp2', _, p2, _, _, _, _, _, rfl, GB.same w67, (placesD 22 rows []).length, rfl, Evl.sz_of (by omega), ?_⟩
      refine ⟨_, rfl, p1, dx1, _, rfl, w67 _ _ hp1', _, p1, _, _, _, _, _, rfl, GC.same w67, (placesD 22 rows []).length, rfl, Evl.sz_of (by omega), rfl, _, rfl, ?_⟩
      rw [decide_eq_true rfl]
      refine iteF ?_
      -- texts
      have PB := (GB.same w67).pg S1 S2 N.lfew N.locks rk hwt
      have PC := (GC.same w67).pg N.cells N.lanes N.lfew N.locks rk hwt
      refine ⟨_, rfl, _, p2, _, _, _, _, rfl, PB, fun J8 w8 => ?_⟩
      refine ⟨_, rfl, _, p1, _, _, _, _, rfl, (GC.same (w67.trans w8)).pg N.cells N.lanes N.lfew N.locks rk hwt, fun J9 w9 => ⟨rfl, _, rfl, ?_⟩⟩
      rw [text_congr N.cells.nd N.lanes.nd Tl.c Tl.h, es_str, decide_eq_true rfl]
      refine iteF ⟨_, _, _, rfl, ?_⟩
      exact ((((((sm.trans s14).trans s15).trans t05).trans w67).trans w8).trans w9)
    · rintro σ H' ⟨y6, y7, y8, rfl, sm⟩
      exact fin H'
end
end TP
namespace TP
open PySem PySem.Spec PyProof.Rows L2 HX HB HG HU HH HD HS HV HQ HK HN TL HM HP HR HO HC HF
/-! ### the head -/
def faL0 : List He.Fa := [.glo "is_name", .glo "is_number", .glo "is_calc", .glo "bodies_of", .glo "is_part", .glo "is_row", .glo "around_in", .glo "wrong_in", .glo "first_wrong", .glo "places_in", .glo "are_sizes", .glo "are_locks", .meth "NoProgram" "__init__", .meth "Program" "__init__", .glo "_law_begun", .glo "_law_next", .glo "_law_name", .glo "_law_names", .glo "_law_head", .glo "_law_calc"]
def faL1 : List He.Fa := [.glo "_law_possible", .glo "_law_shape", .glo "_law_row", .glo "_law_body", .glo "_law_drawn", .meth "NoPlace" "__init__", .glo "row_at", .meth "Program" "places", .meth "Program" "row", .meth "Program" "__eq__", .meth "Program" "__len__", .meth "Program" "body", .meth "Program" "cells", .meth "Program" "locks", .meth "Program" "channels", .glo "calc_words", .glo "row_words", .glo "body_words", .glo "head_words", .meth "Program" "__str__"]
def faL2 : List He.Fa := [.glo "program_text", .glo "_law_made", .glo "_law_calc_words", .glo "_law_words", .glo "_law_heads", .glo "is_figures", .meth "Reader" "__init__", .meth "Reader" "peek", .meth "Reader" "take_if", .meth "Reader" "take_word", .meth "Reader" "take_name", .meth "Reader" "take_number", .meth "Reader" "take_calc", .meth "Reader" "take_part", .meth "Reader" "take_rows", .glo "read_program", .glo "_law_joined", .glo "_law_turned", .glo "_law_read", .glo "law"]
def faL3 : List He.Fa := [.glo "NoProgram", .exm "NoProgram" "NoProgram" true, .noat "NoProgram" "place", .glo "Program", .cls "Program", .mkr "Program", .noat "Program" "spots", .noat "Program" "tree", .noat "Program" "first", .noat "Program" "bolts", .noat "Program" "widths", .glo "NoPlace", .exm "NoPlace" "NoPlace" true, .noat "NoPlace" "at", .glo "Reader", .cls "Reader", .mkr "Reader", .noat "Reader" "left", .noat "Reader" "at", .glo "YardError"]
def faL4 : List He.Fa := [.str "LETTERS" "abcdefghijklmnopqrstuvwxyz", .glo "KINDS", .glo "PARTS", .glo "RANGES", .int "MOST_DEEP" 9, .int "MOST_OFTEN" 2, .int "MOST_ROWS" 60, .int "MOST_NAMES" 4, .glo "NUMBERED", .free "all", .free "bool", .free "dict", .free "enumerate", .free "int", .free "isinstance", .free "len", .free "list", .free "range", .free "set", .free "sorted"]
def faL5 : List He.Fa := [.free "str", .free "tuple", .free "zip"]
def faL : List He.Fa := faL0 ++ faL1 ++ faL2 ++ faL3 ++ faL4 ++ faL5
def dd_isname : He.DefD := ⟨("is_name", none), "is_name", "is_name", defArgs s_isname, defBody s_isname, defScope s_isname, [], []⟩
def dd_isnum : He.DefD := ⟨("is_number", none), "is_number", "is_number", defArgs s_isnum, defBody s_isnum, defScope s_isnum, [], []⟩
def dd_iscalc : He.DefD := ⟨("is_calc", none), "is_calc", "is_calc", defArgs s_iscalc, defBody s_iscalc, defScope s_iscalc, [], []⟩
def dd_bodies : He.DefD := ⟨("bodies_of", none), "bodies_of", "bodies_of", defArgs s_bodies, defBody s_bodies, defScope s_bodies, [], []⟩
def dd_ispart : He.DefD := ⟨("is_part", none), "is_part", "is_part", defArgs s_ispart, defBody s_ispart, defScope s_ispart, [], []⟩
def dd_isrow : He.DefD := ⟨("is_row", none), "is_row", "is_row", defArgs s_isrow, defBody s_isrow, defScope s_isrow, [], []⟩
def dd_around : He.DefD := ⟨("around_in", none), "around_in", "around_in", defArgs s_around, defBody s_around, defScope s_around, [], []⟩
def dd_wrong : He.DefD := ⟨("wrong_in", none), "wrong_in", "wrong_in", defArgs s_wrong, defBody s_wrong, defScope s_wrong, [], []⟩
def dd_first : He.DefD := ⟨("first_wrong", none), "first_wrong", "first_wrong", defArgs s_first, defBody s_first, defScope s_first, [], [("cells", .adr (HH.kwAt ("first_wrong", none) "cells")), ("locks", .adr (HH.kwAt ("first_wrong", none) "locks")), ("channels", .adr (HH.kwAt ("first_wrong", none) "channels"))]⟩
def dd_places : He.DefD := ⟨("places_in", none), "places_in", "places_in", defArgs s_places, defBody s_places, defScope s_places, [], []⟩
def dd_sizes : He.DefD := ⟨("are_sizes", none), "are_sizes", "are_sizes", defArgs s_sizes, defBody s_sizes, defScope s_sizes, [], []⟩
def dd_locks : He.DefD := ⟨("are_locks", none), "are_locks", "are_locks", defArgs s_locks, defBody s_locks, defScope s_locks, [], []⟩
def dd_np : He.DefD := ⟨("NoProgram", some "__init__"), "__init__", "NoProgram.__init__", defArgs s_np, defBody s_np, defScope s_np, [], []⟩
def dd_prog : He.DefD := ⟨("Program", some "__init__"), "__init__", "Program.__init__", defArgs s_prog, defBody s_prog, defScope s_prog, [], [("cells", .non), ("locks", .non), ("channels", .non)]⟩
def dd_begun : He.DefD := ⟨("_law_begun", none), "_law_begun", "_law_begun", defArgs s_begun, defBody s_begun, defScope s_begun, [], []⟩
def dd_next : He.DefD := ⟨("_law_next", none), "_law_next", "_law_next", defArgs s_next, defBody s_next, defScope s_next, [], []⟩
def dd_name : He.DefD := ⟨("_law_name", none), "_law_name", "_law_name", defArgs s_name, defBody s_name, defScope s_name, [], []⟩
def dd_names : He.DefD := ⟨("_law_names", none), "_law_names", "_law_names", defArgs s_names, defBody s_names, defScope s_names, [], []⟩
def dd_head : He.DefD := ⟨("_law_head", none), "_law_head", "_law_head", defArgs s_head, defBody s_head, defScope s_head, [], []⟩
def dd_lcalc : He.DefD := ⟨("_law_calc", none), "_law_calc", "_law_calc", defArgs s_lcalc, defBody s_lcalc, defScope s_lcalc, [], []⟩
def dd_possible : He.DefD := ⟨("_law_possible", none), "_law_possible", "_law_possible", defArgs s_possible, defBody s_possible, defScope s_possible, [], []⟩
def dd_shape : He.DefD := ⟨("_law_shape", none), "_law_shape", "_law_shape", defArgs s_shape, defBody s_shape, defScope s_shape, [], []⟩
def dd_lrow : He.DefD := ⟨("_law_row", none), "_law_row", "_law_row", defArgs s_lrow, defBody s_lrow, defScope s_lrow, [], []⟩
def dd_lbody : He.DefD := ⟨("_law_body", none), "_law_body", "_law_body", defArgs s_lbody, defBody s_lbody, defScope s_lbody, [], []⟩
def dd_drawn : He.DefD := ⟨("_law_drawn", none), "_law_drawn", "_law_drawn", defArgs s_drawn, defBody s_drawn, defScope s_drawn, [], []⟩
def dd_npl : He.DefD := ⟨("NoPlace", some "__init__"), "__init__", "NoPlace.__init__", defArgs s_npl, defBody s_npl, defScope s_npl, [], []⟩
def dd_rowat : He.DefD := ⟨("row_at", none), "row_at", "row_at", defArgs s_rowat, defBody s_rowat, defScope s_rowat, [], []⟩
def dd_pplaces : He.DefD := ⟨("Program", some "places"), "places", "Program.places", defArgs s_pplaces, defBody s_pplaces, defScope s_pplaces, [], []⟩
def dd_prow : He.DefD := ⟨("Program", some "row"), "row", "Program.row", defArgs s_prow, defBody s_prow, defScope s_prow, [], []⟩
def dd_peq : He.DefD := ⟨("Program", some "__eq__"), "__eq__", "Program.__eq__", defArgs s_peq, defBody s_peq, defScope s_peq, [], []⟩
def dd_plen : He.DefD := ⟨("Program", some "__len__"), "__len__", "Program.__len__", defArgs s_plen, defBody s_plen, defScope s_plen, [], []⟩
def dd_pbody : He.DefD := ⟨("Program", some "body"), "body", "Program.body", defArgs s_pbody, defBody s_pbody, defScope s_pbody, [], []⟩
def dd_pcells : He.DefD := ⟨("Program", some "cells"), "cells", "Program.cells", defArgs s_pcells, defBody s_pcells, defScope s_pcells, [], []⟩
def dd_plocks : He.DefD := ⟨("Program", some "locks"), "locks", "Program.locks", defArgs s_plocks, defBody s_plocks, defScope s_plocks, [], []⟩
def dd_pchans : He.DefD := ⟨("Program", some "channels"), "channels", "Program.channels", defArgs s_pchans, defBody s_pchans, defScope s_pchans, [], []⟩
def dd_cwords : He.DefD := ⟨("calc_words", none), "calc_words", "calc_words", defArgs s_cwords, defBody s_cwords, defScope s_cwords, [], []⟩
def dd_rwords : He.DefD := ⟨("row_words", none), "row_words", "row_words", defArgs s_rwords, defBody s_rwords, defScope s_rwords, [], []⟩
def dd_bwords : He.DefD := ⟨("body_words", none), "body_words", "body_words", defArgs s_bwords, defBody s_bwords, defScope s_bwords, [], []⟩
def dd_hwords : He.DefD := ⟨("head_words", none), "head_words", "head_words", defArgs s_hwords, defBody s_hwords, defScope s_hwords, [], []⟩
def dd_pstr : He.DefD := ⟨("Program", some "__str__"), "__str__", "Program.__str__", defArgs s_pstr, defBody s_pstr, defScope s_pstr, [], []⟩
def dd_ptext : He.DefD := ⟨("program_text", none), "program_text", "program_text", defArgs s_ptext, defBody s_ptext, defScope s_ptext, [], []⟩
def dd_made : He.DefD := ⟨("_law_made", none), "_law_made", "_law_made", defArgs s_made, defBody s_made, defScope s_made, [], []⟩
def dd_lcwords : He.DefD := ⟨("_law_calc_words", none), "_law_calc_words", "_law_calc_words", defArgs s_lcwords, defBody s_lcwords, defScope s_lcwords, [], []⟩
def dd_lwords : He.DefD := ⟨("_law_words", none), "_law_words", "_law_words", defArgs s_lwords, defBody s_lwords, defScope s_lwords, [], []⟩
def dd_heads : He.DefD := ⟨("_law_heads", none), "_law_heads", "_law_heads", defArgs s_heads, defBody s_heads, defScope s_heads, [], []⟩
def dd_isfig : He.DefD := ⟨("is_figures", none), "is_figures", "is_figures", defArgs s_isfig, defBody s_isfig, defScope s_isfig, [], []⟩
def dd_rinit : He.DefD := ⟨("Reader", some "__init__"), "__init__", "Reader.__init__", defArgs s_rinit, defBody s_rinit, defScope s_rinit, [], []⟩
def dd_peek : He.DefD := ⟨("Reader", some "peek"), "peek", "Reader.peek", defArgs s_peek, defBody s_peek, defScope s_peek, [], []⟩
def dd_takeif : He.DefD := ⟨("Reader", some "take_if"), "take_if", "Reader.take_if", defArgs s_takeif, defBody s_takeif, defScope s_takeif, [], []⟩
def dd_takeword : He.DefD := ⟨("Reader", some "take_word"), "take_word", "Reader.take_word", defArgs s_takeword, defBody s_takeword, defScope s_takeword, [], []⟩
def dd_takename : He.DefD := ⟨("Reader", some "take_name"), "take_name", "Reader.take_name", defArgs s_takename, defBody s_takename, defScope s_takename, [], []⟩
def dd_takenum : He.DefD := ⟨("Reader", some "take_number"), "take_number", "Reader.take_number", defArgs s_takenum, defBody s_takenum, defScope s_takenum, [], []⟩
def dd_takecalc : He.DefD := ⟨("Reader", some "take_calc"), "take_calc", "Reader.take_calc", defArgs s_takecalc, defBody s_takecalc, defScope s_takecalc, [], []⟩
def dd_takepart : He.DefD := ⟨("Reader", some "take_part"), "take_part", "Reader.take_part", defArgs s_takepart, defBody s_takepart, defScope s_takepart, [], []⟩
def dd_takerows : He.DefD := ⟨("Reader", some "take_rows"), "take_rows", "Reader.take_rows", defArgs s_takerows, defBody s_takerows, defScope s_takerows, [], []⟩
def dd_readprog : He.DefD := ⟨("read_program", none), "read_program", "read_program", defArgs s_readprog, defBody s_readprog, defScope s_readprog, [], []⟩
def dd_joined : He.DefD := ⟨("_law_joined", none), "_law_joined", "_law_joined", defArgs s_joined, defBody s_joined, defScope s_joined, [], []⟩
def dd_turned : He.DefD := ⟨("_law_turned", none), "_law_turned", "_law_turned", defArgs s_turned, defBody s_turned, defScope s_turned, [], []⟩
def dd_lread : He.DefD := ⟨("_law_read", none), "_law_read", "_law_read", defArgs s_lread, defBody s_lread, defScope s_lread, [], []⟩
def dd_law : He.DefD := ⟨("law", none), "law", "law", defArgs s_law, defBody s_law, defScope s_law, [], []⟩
def fnL0 : List He.DefD := [dd_isname, dd_isnum, dd_iscalc, dd_bodies, dd_ispart, dd_isrow, dd_around, dd_wrong, dd_first, dd_places, dd_sizes, dd_locks, dd_np, dd_prog, dd_begun, dd_next, dd_name, dd_names, dd_head, dd_lcalc]
def fnL1 : List He.DefD := [dd_possible, dd_shape, dd_lrow, dd_lbody, dd_drawn, dd_npl, dd_rowat, dd_pplaces, dd_prow, dd_peq, dd_plen, dd_pbody, dd_pcells, dd_plocks, dd_pchans, dd_cwords, dd_rwords, dd_bwords, dd_hwords, dd_pstr]
def fnL2 : List He.DefD := [dd_ptext, dd_made, dd_lcwords, dd_lwords, dd_heads, dd_isfig, dd_rinit, dd_peek, dd_takeif, dd_takeword, dd_takename, dd_takenum, dd_takecalc, dd_takepart, dd_takerows, dd_readprog, dd_joined, dd_turned, dd_lread, dd_law]
def fnL : List He.DefD := fnL0 ++ fnL1 ++ fnL2
open HH in
def exL0 : List HH.Ex := [fun K => HQ.exB K (He.ga K "NoProgram"), fun K => HQ.inB K (He.ga K "NoProgram"), fun K => HQ.exB K (He.ga K "NoPlace"), fun K => HQ.inB K (He.ga K "NoPlace"), fun K => HQ.bsB K (He.ga K "YardError"), fun K => HC.neB K (He.ga K "Program"), fun K => He.tupB K "KINDS" [.str "sum", .str "minus", .str "less"], dtB "PARTS" [("put", [.str "name", .str "calc"]), ("read", [.str "name", .str "cell"]), ("write", [.str "cell", .str "calc"]), ("tell", [.str "calc"]), ("send", [.str "channel", .str "calc"]), ("take", [.str "name", .str "channel"]), ("hold", [.str "lock", .str "body"]), ("rest", [.str "rest"]), ("nest", [.str "scope", .str "body"]), ("within", [.str "span", .str "scope", .str "body"]), ("start", [.str "home", .str "body"]), ("off", [.str "entered"]), ("shield", [.str "body"]), ("fail", [.str "name"]), ("catch", [.str "body", .str "name", .str "body"]), ("try", [.str "body", .str "body"]), ("if", [.str "calc", .str "body", .str "body"]), ("often", [.str "times", .str "body"])], dtB "RANGES" [("rest", [.int 0, .int 9]), ("span", [.int 1, .int 9]), ("times", [.int 0, .int 3])], fun K => He.tupB K "NUMBERED" [.str "rest", .str "span", .str "times"], tpB (kwAt ("first_wrong", none) "cells") [], tpB (kwAt ("first_wrong", none) "locks") [], tpB (kwAt ("first_wrong", none) "channels") []]
open HH in
def exL : List HH.Ex := exL0
def tsL0 : List He.Tab := [(fun K => He.ga K "PARTS", ["put", "read", "write", "tell", "send", "take", "hold", "rest", "nest", "within", "start", "off", "shield", "fail", "catch", "try", "if", "often"]), (fun K => He.ga K "RANGES", ["rest", "span", "times"])]
def tsL : List He.Tab := tsL0
def names0 : List PySem.Str := ["LETTERS", "KINDS", "is_name", "is_number", "is_calc", "YardError", "NoProgram", "NoText", "NoPlace", "PARTS", "RANGES", "MOST_DEEP", "MOST_OFTEN", "bodies_of", "is_part", "is_row", "around_in", "wrong_in", "first_wrong", "places_in"]
def names1 : List PySem.Str := ["calc_words", "row_words", "body_words", "head_words", "MOST_ROWS", "MOST_NAMES", "are_sizes", "are_locks", "row_at", "Program", "NUMBERED", "program_text", "is_figures", "Reader", "read_program", "_law_begun", "_law_next", "_law_name", "_law_names", "_law_head"]
def names2 : List PySem.Str := ["_law_calc", "_law_possible", "_law_shape", "_law_row", "_law_body", "_law_drawn", "_law_made", "_law_calc_words", "_law_words", "_law_heads", "_law_joined", "_law_turned", "_law_read"]
def names : List PySem.Str := names0 ++ names1 ++ names2
abbrev Rw : PySem.W.OpenRow := PySem.W.OpenLaw.row PySem.Challenge.rw_nestyard_k77_whole_texts_read_back
abbrev qv : PySem.Program := PySem.W.view Rw.prog [60]
abbrev hk : PySem.W.Hook := HH.hookX 5 faL fnL exL tsL
def ob (s : PySem.W.SharedT) : HH.AlX := HH.obsXG 5 faL fnL exL tsL (HandSHeadRun.getT s)
theorem ob_eq (s : PySem.W.SharedT) : ob s = hk.obs s.abs := HH.obsXG_eq (HandSHeadRun.getT_eq s)
set_option maxHeartbeats 0 in
theorem runF (w : World) : HandSHeadRun.RunEq Rw qv hk ob 4000 names (w.withFollow "special-get-raises" false) := by
  intro os
  kernel_rfl
set_option maxHeartbeats 0 in
theorem runT (w : World) : HandSHeadRun.RunEq Rw qv hk ob 4000 names (w.withFollow "special-get-raises" true) := by
  intro os
  kernel_rfl
theorem run (w : World) : HandSHeadRun.RunEq Rw qv hk ob 4000 names w := PySem.W.byRow2 "special-get-raises" runF runT w
theorem facts {w : World} {K : PySem.W.Frag} {h : Heap} {mg : Str → Option Value} {fa : Addr} (X : K.In h) (G : h.Ns mainGlobals mg) (hfa : mg ("law" : Str) = some (.ref fa)) (c : HH.SaysX faL fnL exL tsL w K) :
    ∃ (fd : FuncData) (T : Tp K w mg), Fun K "law" "law" s_law fa fd ∧ ∀ (s : Shared) (v : Value), BindsTo s fd ⟨[v], []⟩ [("_law_script", v)] := by
  obtain ⟨fd_isname, F_isname⟩ := c.def_ 0 (d := dd_isname) rfl
  obtain ⟨fd_isnum, F_isnum⟩ := c.def_ 1 (d := dd_isnum) rfl
  obtain ⟨fd_iscalc, F_iscalc⟩ := c.def_ 2 (d := dd_iscalc) rfl
  obtain ⟨fd_bodies, F_bodies⟩ := c.def_ 3 (d := dd_bodies) rfl
  obtain ⟨fd_ispart, F_ispart⟩ := c.def_ 4 (d := dd_ispart) rfl
  obtain ⟨fd_isrow, F_isrow⟩ := c.def_ 5 (d := dd_isrow) rfl
  obtain ⟨fd_around, F_around⟩ := c.def_ 6 (d := dd_around) rfl
  obtain ⟨fd_wrong, F_wrong⟩ := c.def_ 7 (d := dd_wrong) rfl
  obtain ⟨fd_first, F_first⟩ := c.def_ 8 (d := dd_first) rfl
  obtain ⟨fd_places, F_places⟩ := c.def_ 9 (d := dd_places) rfl
  obtain ⟨fd_sizes, F_sizes⟩ := c.def_ 10 (d := dd_sizes) rfl
  obtain ⟨fd_locks, F_locks⟩ := c.def_ 11 (d := dd_locks) rfl
  obtain ⟨fd_np, F_np⟩ := c.def_ 12 (d := dd_np) rfl
  obtain ⟨fd_prog, F_prog⟩ := c.def_ 13 (d := dd_prog) rfl
  obtain ⟨fd_begun, F_begun⟩ := c.def_ 14 (d := dd_begun) rfl
  obtain ⟨fd_next, F_next⟩ := c.def_ 15 (d := dd_next) rfl
  obtain ⟨fd_name, F_name⟩ := c.def_ 16 (d := dd_name) rfl
  obtain ⟨fd_names, F_names⟩ := c.def_ 17 (d := dd_names) rfl
  obtain ⟨fd_head, F_head⟩ := c.def_ 18 (d := dd_head) rfl
  obtain ⟨fd_lcalc, F_lcalc⟩ := c.def_ 19 (d := dd_lcalc) rfl
  obtain ⟨fd_possible, F_possible⟩ := c.def_ 20 (d := dd_possible) rfl
  obtain ⟨fd_shape, F_shape⟩ := c.def_ 21 (d := dd_shape) rfl
  obtain ⟨fd_lrow, F_lrow⟩ := c.def_ 22 (d := dd_lrow) rfl
  obtain ⟨fd_lbody, F_lbody⟩ := c.def_ 23 (d := dd_lbody) rfl
  obtain ⟨fd_drawn, F_drawn⟩ := c.def_ 24 (d := dd_drawn) rfl
  obtain ⟨fd_npl, F_npl⟩ := c.def_ 25 (d := dd_npl) rfl
  obtain ⟨fd_rowat, F_rowat⟩ := c.def_ 26 (d := dd_rowat) rfl
  obtain ⟨fd_pplaces, F_pplaces⟩ := c.def_ 27 (d := dd_pplaces) rfl
  obtain ⟨fd_prow, F_prow⟩ := c.def_ 28 (d := dd_prow) rfl
  obtain ⟨fd_peq, F_peq⟩ := c.def_ 29 (d := dd_peq) rfl
  obtain ⟨fd_plen, F_plen⟩ := c.def_ 30 (d := dd_plen) rfl
  obtain ⟨fd_pbody, F_pbody⟩ := c.def_ 31 (d := dd_pbody) rfl
  obtain ⟨fd_pcells, F_pcells⟩ := c.def_ 32 (d := dd_pcells) rfl
  obtain ⟨fd_plocks, F_plocks⟩ := c.def_ 33 (d := dd_plocks) rfl
  obtain ⟨fd_pchans, F_pchans⟩ := c.def_ 34 (d := dd_pchans) rfl
  obtain ⟨fd_cwords, F_cwords⟩ := c.def_ 35 (d := dd_cwords) rfl
  obtain ⟨fd_rwords, F_rwords⟩ := c.def_ 36 (d := dd_rwords) rfl
  obtain ⟨fd_bwords, F_bwords⟩ := c.def_ 37 (d := dd_bwords) rfl
  obtain ⟨fd_hwords, F_hwords⟩ := c.def_ 38 (d := dd_hwords) rfl
  obtain ⟨fd_pstr, F_pstr⟩ := c.def_ 39 (d := dd_pstr) rfl
  obtain ⟨fd_ptext, F_ptext⟩ := c.def_ 40 (d := dd_ptext) rfl
  obtain ⟨fd_made, F_made⟩ := c.def_ 41 (d := dd_made) rfl
  obtain ⟨fd_lcwords, F_lcwords⟩ := c.def_ 42 (d := dd_lcwords) rfl
  obtain ⟨fd_lwords, F_lwords⟩ := c.def_ 43 (d := dd_lwords) rfl
  obtain ⟨fd_heads, F_heads⟩ := c.def_ 44 (d := dd_heads) rfl
  obtain ⟨fd_isfig, F_isfig⟩ := c.def_ 45 (d := dd_isfig) rfl
  obtain ⟨fd_rinit, F_rinit⟩ := c.def_ 46 (d := dd_rinit) rfl
  obtain ⟨fd_peek, F_peek⟩ := c.def_ 47 (d := dd_peek) rfl
  obtain ⟨fd_takeif, F_takeif⟩ := c.def_ 48 (d := dd_takeif) rfl
  obtain ⟨fd_takeword, F_takeword⟩ := c.def_ 49 (d := dd_takeword) rfl
  obtain ⟨fd_takename, F_takename⟩ := c.def_ 50 (d := dd_takename) rfl
  obtain ⟨fd_takenum, F_takenum⟩ := c.def_ 51 (d := dd_takenum) rfl
  obtain ⟨fd_takecalc, F_takecalc⟩ := c.def_ 52 (d := dd_takecalc) rfl
  obtain ⟨fd_takepart, F_takepart⟩ := c.def_ 53 (d := dd_takepart) rfl
  obtain ⟨fd_takerows, F_takerows⟩ := c.def_ 54 (d := dd_takerows) rfl
  obtain ⟨fd_readprog, F_readprog⟩ := c.def_ 55 (d := dd_readprog) rfl
  obtain ⟨fd_joined, F_joined⟩ := c.def_ 56 (d := dd_joined) rfl
  obtain ⟨fd_turned, F_turned⟩ := c.def_ 57 (d := dd_turned) rfl
  obtain ⟨fd_lread, F_lread⟩ := c.def_ 58 (d := dd_lread) rfl
  obtain ⟨fd_law, F_law⟩ := c.def_ 59 (d := dd_law) rfl
  have e := hfa.symm.trans (He.glo_ok X G (c.fact 59 (f := .glo "law") rfl))
  cases e
  have bl := FunD.bindsA (ps := ["_law_script"]) F_law fun _ _ _ _ _ _ us hl => match us, hl with | [_], _ => rfl
  exact ⟨fd_law, { C_YardError := He.ga K "YardError", gC_YardError := He.glo_ok X G (c.fact 79 (f := .glo "YardError") rfl), bs_YardError := HQ.bsB_ok (c.ex_ 4 rfl), C_NoProgram := He.ga K "NoProgram", gC_NoProgram := He.glo_ok X G (c.fact 60 (f := .glo "NoProgram") rfl), x_NoProgram := (HQ.exB_ok (c.ex_ 0 rfl)).1, xf_NoProgram := (HQ.exB_ok (c.ex_ 0 rfl)).2, ee_NoProgram := He.exm_ok (c.fact 61 (f := .exm "NoProgram" "NoProgram" true) rfl), na_NoProgram_place := He.noat_ok (c.fact 62 (f := .noat "NoProgram" "place") rfl), C_Program := He.ga K "Program", gC_Program := He.glo_ok X G (c.fact 63 (f := .glo "Program") rfl), cl_Program := He.cls_ok (c.fact 64 (f := .cls "Program") rfl), na_Program_spots := He.noat_ok (c.fact 66 (f := .noat "Program" "spots") rfl), na_Program_tree := He.noat_ok (c.fact 67 (f := .noat "Program" "tree") rfl), na_Program_first := He.noat_ok (c.fact 68 (f := .noat "Program" "first") rfl), na_Program_bolts := He.noat_ok (c.fact 69 (f := .noat "Program" "bolts") rfl), na_Program_widths := He.noat_ok (c.fact 70 (f := .noat "Program" "widths") rfl), C_NoPlace := He.ga K "NoPlace", gC_NoPlace := He.glo_ok X G (c.fact 71 (f := .glo "NoPlace") rfl), x_NoPlace := (HQ.exB_ok (c.ex_ 2 rfl)).1, xf_NoPlace := (HQ.exB_ok (c.ex_ 2 rfl)).2, ee_NoPlace := He.exm_ok (c.fact 72 (f := .exm "NoPlace" "NoPlace" true) rfl), na_NoPlace_at := He.noat_ok (c.fact 73 (f := .noat "NoPlace" "at") rfl), C_Reader := He.ga K "Reader", gC_Reader := He.glo_ok X G (c.fact 74 (f := .glo "Reader") rfl), cl_Reader := He.cls_ok (c.fact 75 (f := .cls "Reader") rfl), na_Reader_left := He.noat_ok (c.fact 77 (f := .noat "Reader" "left") rfl), na_Reader_at := He.noat_ok (c.fact 78 (f := .noat "Reader" "at") rfl), oc_Program := HC.neB_ok (c.ex_ 5 rfl), f_isname := _, fd_isname := fd_isname, D_isname := ⟨HH.funOf F_isname, (FunD.bindsN (ps := ["thing"]) F_isname fun _ _ _ _ _ _ us hl => match us, hl with | [_], _ => rfl), He.glo_ok X G (c.fact 0 (f := .glo "is_name") rfl)⟩, f_isnum := _, fd_isnum := fd_isnum, D_isnum := ⟨HH.funOf F_isnum, (FunD.bindsN (ps := ["thing"]) F_isnum fun _ _ _ _ _ _ us hl => match us, hl with | [_], _ => rfl), He.glo_ok X G (c.fact 1 (f := .glo "is_number") rfl)⟩, f_iscalc := _, fd_iscalc := fd_iscalc, D_iscalc := ⟨HH.funOf F_iscalc, (FunD.bindsN (ps := ["thing"]) F_iscalc fun _ _ _ _ _ _ us hl => match us, hl with | [_], _ => rfl), He.glo_ok X G (c.fact 2 (f := .glo "is_calc") rfl)⟩, f_bodies := _, fd_bodies := fd_bodies, D_bodies := ⟨HH.funOf F_bodies, (FunD.bindsN (ps := ["row"]) F_bodies fun _ _ _ _ _ _ us hl => match us, hl with | [_], _ => rfl), He.glo_ok X G (c.fact 3 (f := .glo "bodies_of") rfl)⟩, f_ispart := _, fd_ispart := fd_ispart, D_ispart := ⟨HH.funOf F_ispart, (FunD.bindsN (ps := ["kind", "thing", "known", "around"]) F_ispart fun _ _ _ _ _ _ us hl => match us, hl with | [_, _, _, _], _ => rfl), He.glo_ok X G (c.fact 4 (f := .glo "is_part") rfl)⟩, f_isrow := _, fd_isrow := fd_isrow, D_isrow := ⟨HH.funOf F_isrow, (FunD.bindsN (ps := ["row", "known", "around"]) F_isrow fun _ _ _ _ _ _ us hl => match us, hl with | [_, _, _], _ => rfl), He.glo_ok X G (c.fact 5 (f := .glo "is_row") rfl)⟩, f_around := _, fd_around := fd_around, D_around := ⟨HH.funOf F_around, (FunD.bindsN (ps := ["row", "around"]) F_around fun _ _ _ _ _ _ us hl => match us, hl with | [_, _], _ => rfl), He.glo_ok X G (c.fact 6 (f := .glo "around_in") rfl)⟩, f_wrong := _, fd_wrong := fd_wrong, D_wrong := ⟨HH.funOf F_wrong, (FunD.bindsN (ps := ["body", "place", "known", "around", "oftens"]) F_wrong fun _ _ _ _ _ _ us hl => match us, hl with | [_, _, _, _, _], _ => rfl), He.glo_ok X G (c.fact 7 (f := .glo "wrong_in") rfl)⟩, f_first := _, fd_first := fd_first, dv_first_cells := HH.kwAt ("first_wrong", none) "cells" K, dt_first_cells := fun H => HH.tpB_ok (c.ex_ 10 rfl) H, dv_first_locks := HH.kwAt ("first_wrong", none) "locks" K, dt_first_locks := fun H => HH.tpB_ok (c.ex_ 11 rfl) H, dv_first_channels := HH.kwAt ("first_wrong", none) "channels" K, dt_first_channels := fun H => HH.tpB_ok (c.ex_ 12 rfl) H, D_first := F_first, g_first := He.glo_ok X G (c.fact 8 (f := .glo "first_wrong") rfl), f_places := _, fd_places := fd_places, D_places := ⟨HH.funOf F_places, (FunD.bindsN (ps := ["body", "place"]) F_places fun _ _ _ _ _ _ us hl => match us, hl with | [_, _], _ => rfl), He.glo_ok X G (c.fact 9 (f := .glo "places_in") rfl)⟩, f_sizes := _, fd_sizes := fd_sizes, D_sizes := ⟨HH.funOf F_sizes, (FunD.bindsN (ps := ["thing", "least", "most"]) F_sizes fun _ _ _ _ _ _ us hl => match us, hl with | [_, _, _], _ => rfl), He.glo_ok X G (c.fact 10 (f := .glo "are_sizes") rfl)⟩, f_locks := _, fd_locks := fd_locks, D_locks := ⟨HH.funOf F_locks, (FunD.bindsN (ps := ["thing"]) F_locks fun _ _ _ _ _ _ us hl => match us, hl with | [_], _ => rfl), He.glo_ok X G (c.fact 11 (f := .glo "are_locks") rfl)⟩, f_np := _, fd_np := fd_np, D_np := HH.funOf F_np, b_np := (FunD.bindsN (ps := ["self", "place"]) F_np fun _ _ _ _ _ _ us hl => match us, hl with | [_, _], _ => rfl), m_np := He.meth_ok (c.fact 12 (f := .meth "NoProgram" "__init__") rfl), i_NoProgram := (HQ.inB_ok (c.ex_ 1 rfl)).1, ti_NoProgram := (HQ.inB_ok (c.ex_ 1 rfl)).2, f_prog := _, fd_prog := fd_prog, D_prog := F_prog, m_prog := He.meth_ok (c.fact 13 (f := .meth "Program" "__init__") rfl), mk_Program := He.mkr_ok (c.fact 65 (f := .mkr "Program") rfl), f_begun := _, fd_begun := fd_begun, D_begun := ⟨HH.funOf F_begun, (FunD.bindsN (ps := ["_law_script"]) F_begun fun _ _ _ _ _ _ us hl => match us, hl with | [_], _ => rfl), He.glo_ok X G (c.fact 14 (f := .glo "_law_begun") rfl)⟩, f_next := _, fd_next := fd_next, D_next := ⟨HH.funOf F_next, (FunD.bindsN (ps := ["_law_draw", "_law_size"]) F_next fun _ _ _ _ _ _ us hl => match us, hl with | [_, _], _ => rfl), He.glo_ok X G (c.fact 15 (f := .glo "_law_next") rfl)⟩, f_name := _, fd_name := fd_name, D_name := ⟨HH.funOf F_name, (FunD.bindsN (ps := ["_law_draw"]) F_name fun _ _ _ _ _ _ us hl => match us, hl with | [_], _ => rfl), He.glo_ok X G (c.fact 16 (f := .glo "_law_name") rfl)⟩, f_names := _, fd_names := fd_names, D_names := ⟨HH.funOf F_names, (FunD.bindsN (ps := ["_law_draw", "_law_many"]) F_names fun _ _ _ _ _ _ us hl => match us, hl with | [_, _], _ => rfl), He.glo_ok X G (c.fact 17 (f := .glo "_law_names") rfl)⟩, f_head := _, fd_head := fd_head, D_head := ⟨HH.funOf F_head, (FunD.bindsN (ps := ["_law_draw"]) F_head fun _ _ _ _ _ _ us hl => match us, hl with | [_], _ => rfl), He.glo_ok X G (c.fact 18 (f := .glo "_law_head") rfl)⟩, f_lcalc := _, fd_lcalc := fd_lcalc, D_lcalc := ⟨HH.funOf F_lcalc, (FunD.bindsN (ps := ["_law_draw", "_law_play", "_law_deep"]) F_lcalc fun _ _ _ _ _ _ us hl => match us, hl with | [_, _, _], _ => rfl), He.glo_ok X G (c.fact 19 (f := .glo "_law_calc") rfl)⟩, f_possible := _, fd_possible := fd_possible, D_possible := ⟨HH.funOf F_possible, (FunD.bindsN (ps := ["_law_play", "_law_around"]) F_possible fun _ _ _ _ _ _ us hl => match us, hl with | [_, _], _ => rfl), He.glo_ok X G (c.fact 20 (f := .glo "_law_possible") rfl)⟩, f_shape := _, fd_shape := fd_shape, D_shape := ⟨HH.funOf F_shape, (FunD.bindsN (ps := ["_law_word"]) F_shape fun _ _ _ _ _ _ us hl => match us, hl with | [_], _ => rfl), He.glo_ok X G (c.fact 21 (f := .glo "_law_shape") rfl)⟩, f_lrow := _, fd_lrow := fd_lrow, D_lrow := ⟨HH.funOf F_lrow, (FunD.bindsN (ps := ["_law_draw", "_law_play", "_law_around", "_law_deep", "_law_oftens"]) F_lrow fun _ _ _ _ _ _ us hl => match us, hl with | [_, _, _, _, _], _ => rfl), He.glo_ok X G (c.fact 22 (f := .glo "_law_row") rfl)⟩, f_lbody := _, fd_lbody := fd_lbody, D_lbody := ⟨HH.funOf F_lbody, (FunD.bindsN (ps := ["_law_draw", "_law_play", "_law_around", "_law_deep", "_law_oftens"]) F_lbody fun _ _ _ _ _ _ us hl => match us, hl with | [_, _, _, _, _], _ => rfl), He.glo_ok X G (c.fact 23 (f := .glo "_law_body") rfl)⟩, f_drawn := _, fd_drawn := fd_drawn, D_drawn := ⟨HH.funOf F_drawn, (FunD.bindsN (ps := ["_law_draw"]) F_drawn fun _ _ _ _ _ _ us hl => match us, hl with | [_], _ => rfl), He.glo_ok X G (c.fact 24 (f := .glo "_law_drawn") rfl)⟩, f_npl := _, fd_npl := fd_npl, D_npl := HH.funOf F_npl, b_npl := (FunD.bindsN (ps := ["self", "at"]) F_npl fun _ _ _ _ _ _ us hl => match us, hl with | [_, _], _ => rfl), m_npl := He.meth_ok (c.fact 25 (f := .meth "NoPlace" "__init__") rfl), i_NoPlace := (HQ.inB_ok (c.ex_ 3 rfl)).1, ti_NoPlace := (HQ.inB_ok (c.ex_ 3 rfl)).2, f_rowat := _, fd_rowat := fd_rowat, D_rowat := ⟨HH.funOf F_rowat, (FunD.bindsN (ps := ["body", "place"]) F_rowat fun _ _ _ _ _ _ us hl => match us, hl with | [_, _], _ => rfl), He.glo_ok X G (c.fact 26 (f := .glo "row_at") rfl)⟩, f_pplaces := _, fd_pplaces := fd_pplaces, D_pplaces := HH.funOf F_pplaces, b_pplaces := (FunD.bindsN (ps := ["self"]) F_pplaces fun _ _ _ _ _ _ us hl => match us, hl with | [_], _ => rfl), m_pplaces := He.meth_ok (c.fact 27 (f := .meth "Program" "places") rfl), f_prow := _, fd_prow := fd_prow, D_prow := HH.funOf F_prow, b_prow := (FunD.bindsN (ps := ["self", "place"]) F_prow fun _ _ _ _ _ _ us hl => match us, hl with | [_, _], _ => rfl), m_prow := He.meth_ok (c.fact 28 (f := .meth "Program" "row") rfl), f_peq := _, fd_peq := fd_peq, D_peq := HH.funOf F_peq, b_peq := (FunD.bindsN (ps := ["self", "other"]) F_peq fun _ _ _ _ _ _ us hl => match us, hl with | [_, _], _ => rfl), m_peq := He.meth_ok (c.fact 29 (f := .meth "Program" "__eq__") rfl), f_plen := _, fd_plen := fd_plen, D_plen := HH.funOf F_plen, b_plen := (FunD.bindsN (ps := ["self"]) F_plen fun _ _ _ _ _ _ us hl => match us, hl with | [_], _ => rfl), m_plen := He.meth_ok (c.fact 30 (f := .meth "Program" "__len__") rfl), f_pbody := _, fd_pbody := fd_pbody, D_pbody := HH.funOf F_pbody, b_pbody := (FunD.bindsN (ps := ["self"]) F_pbody fun _ _ _ _ _ _ us hl => match us, hl with | [_], _ => rfl), m_pbody := He.meth_ok (c.fact 31 (f := .meth "Program" "body") rfl), f_pcells := _, fd_pcells := fd_pcells, D_pcells := HH.funOf F_pcells, b_pcells := (FunD.bindsN (ps := ["self"]) F_pcells fun _ _ _ _ _ _ us hl => match us, hl with | [_], _ => rfl), m_pcells := He.meth_ok (c.fact 32 (f := .meth "Program" "cells") rfl), f_plocks := _, fd_plocks := fd_plocks, D_plocks := HH.funOf F_plocks, b_plocks := (FunD.bindsN (ps := ["self"]) F_plocks fun _ _ _ _ _ _ us hl => match us, hl with | [_], _ => rfl), m_plocks := He.meth_ok (c.fact 33 (f := .meth "Program" "locks") rfl), f_pchans := _, fd_pchans := fd_pchans, D_pchans := HH.funOf F_pchans, b_pchans := (FunD.bindsN (ps := ["self"]) F_pchans fun _ _ _ _ _ _ us hl => match us, hl with | [_], _ => rfl), m_pchans := He.meth_ok (c.fact 34 (f := .meth "Program" "channels") rfl), f_cwords := _, fd_cwords := fd_cwords, D_cwords := ⟨HH.funOf F_cwords, (FunD.bindsN (ps := ["calc"]) F_cwords fun _ _ _ _ _ _ us hl => match us, hl with | [_], _ => rfl), He.glo_ok X G (c.fact 35 (f := .glo "calc_words") rfl)⟩, f_rwords := _, fd_rwords := fd_rwords, D_rwords := ⟨HH.funOf F_rwords, (FunD.bindsN (ps := ["row"]) F_rwords fun _ _ _ _ _ _ us hl => match us, hl with | [_], _ => rfl), He.glo_ok X G (c.fact 36 (f := .glo "row_words") rfl)⟩, f_bwords := _, fd_bwords := fd_bwords, D_bwords := ⟨HH.funOf F_bwords, (FunD.bindsN (ps := ["body"]) F_bwords fun _ _ _ _ _ _ us hl => match us, hl with | [_], _ => rfl), He.glo_ok X G (c.fact 37 (f := .glo "body_words") rfl)⟩, f_hwords := _, fd_hwords := fd_hwords, D_hwords := ⟨HH.funOf F_hwords, (FunD.bindsN (ps := ["cells", "locks", "channels"]) F_hwords fun _ _ _ _ _ _ us hl => match us, hl with | [_, _, _], _ => rfl), He.glo_ok X G (c.fact 38 (f := .glo "head_words") rfl)⟩, f_pstr := _, fd_pstr := fd_pstr, D_pstr := HH.funOf F_pstr, b_pstr := (FunD.bindsN (ps := ["self"]) F_pstr fun _ _ _ _ _ _ us hl => match us, hl with | [_], _ => rfl), m_pstr := He.meth_ok (c.fact 39 (f := .meth "Program" "__str__") rfl), f_ptext := _, fd_ptext := fd_ptext, D_ptext := ⟨HH.funOf F_ptext, (FunD.bindsN (ps := ["program"]) F_ptext fun _ _ _ _ _ _ us hl => match us, hl with | [_], _ => rfl), He.glo_ok X G (c.fact 40 (f := .glo "program_text") rfl)⟩, f_made := _, fd_made := fd_made, D_made := ⟨HH.funOf F_made, (FunD.bindsN (ps := ["_law_play", "_law_rows"]) F_made fun _ _ _ _ _ _ us hl => match us, hl with | [_, _], _ => rfl), He.glo_ok X G (c.fact 41 (f := .glo "_law_made") rfl)⟩, f_lcwords := _, fd_lcwords := fd_lcwords, D_lcwords := ⟨HH.funOf F_lcwords, (FunD.bindsN (ps := ["_law_calc_here"]) F_lcwords fun _ _ _ _ _ _ us hl => match us, hl with | [_], _ => rfl), He.glo_ok X G (c.fact 42 (f := .glo "_law_calc_words") rfl)⟩, f_lwords := _, fd_lwords := fd_lwords, D_lwords := ⟨HH.funOf F_lwords, (FunD.bindsN (ps := ["_law_rows"]) F_lwords fun _ _ _ _ _ _ us hl => match us, hl with | [_], _ => rfl), He.glo_ok X G (c.fact 43 (f := .glo "_law_words") rfl)⟩, f_heads := _, fd_heads := fd_heads, D_heads := ⟨HH.funOf F_heads, (FunD.bindsN (ps := ["_law_play"]) F_heads fun _ _ _ _ _ _ us hl => match us, hl with | [_], _ => rfl), He.glo_ok X G (c.fact 44 (f := .glo "_law_heads") rfl)⟩, f_isfig := _, fd_isfig := fd_isfig, D_isfig := ⟨HH.funOf F_isfig, (FunD.bindsN (ps := ["word"]) F_isfig fun _ _ _ _ _ _ us hl => match us, hl with | [_], _ => rfl), He.glo_ok X G (c.fact 45 (f := .glo "is_figures") rfl)⟩, f_rinit := _, fd_rinit := fd_rinit, D_rinit := HH.funOf F_rinit, b_rinit := (FunD.bindsN (ps := ["self", "text"]) F_rinit fun _ _ _ _ _ _ us hl => match us, hl with | [_, _], _ => rfl), m_rinit := He.meth_ok (c.fact 46 (f := .meth "Reader" "__init__") rfl), mk_Reader := He.mkr_ok (c.fact 76 (f := .mkr "Reader") rfl), f_peek := _, fd_peek := fd_peek, D_peek := HH.funOf F_peek, b_peek := (FunD.bindsN (ps := ["self"]) F_peek fun _ _ _ _ _ _ us hl => match us, hl with | [_], _ => rfl), m_peek := He.meth_ok (c.fact 47 (f := .meth "Reader" "peek") rfl), f_takeif := _, fd_takeif := fd_takeif, D_takeif := HH.funOf F_takeif, b_takeif := (FunD.bindsN (ps := ["self", "good"]) F_takeif fun _ _ _ _ _ _ us hl => match us, hl with | [_, _], _ => rfl), m_takeif := He.meth_ok (c.fact 48 (f := .meth "Reader" "take_if") rfl), f_takeword := _, fd_takeword := fd_takeword, D_takeword := HH.funOf F_takeword, b_takeword := (FunD.bindsN (ps := ["self", "word"]) F_takeword fun _ _ _ _ _ _ us hl => match us, hl with | [_, _], _ => rfl), m_takeword := He.meth_ok (c.fact 49 (f := .meth "Reader" "take_word") rfl), f_takename := _, fd_takename := fd_takename, D_takename := HH.funOf F_takename, b_takename := (FunD.bindsN (ps := ["self"]) F_takename fun _ _ _ _ _ _ us hl => match us, hl with | [_], _ => rfl), m_takename := He.meth_ok (c.fact 50 (f := .meth "Reader" "take_name") rfl), f_takenum := _, fd_takenum := fd_takenum, D_takenum := HH.funOf F_takenum, b_takenum := (FunD.bindsN (ps := ["self"]) F_takenum fun _ _ _ _ _ _ us hl => match us, hl with | [_], _ => rfl), m_takenum := He.meth_ok (c.fact 51 (f := .meth "Reader" "take_number") rfl), f_takecalc := _, fd_takecalc := fd_takecalc, D_takecalc := HH.funOf F_takecalc, b_takecalc := (FunD.bindsN (ps := ["self"]) F_takecalc fun _ _ _ _ _ _ us hl => match us, hl with | [_], _ => rfl), m_takecalc := He.meth_ok (c.fact 52 (f := .meth "Reader" "take_calc") rfl), f_takepart := _, fd_takepart := fd_takepart, D_takepart := HH.funOf F_takepart, b_takepart := (FunD.bindsN (ps := ["self", "kind"]) F_takepart fun _ _ _ _ _ _ us hl => match us, hl with | [_, _], _ => rfl), m_takepart := He.meth_ok (c.fact 53 (f := .meth "Reader" "take_part") rfl), f_takerows := _, fd_takerows := fd_takerows, D_takerows := HH.funOf F_takerows, b_takerows := (FunD.bindsN (ps := ["self", "last"]) F_takerows fun _ _ _ _ _ _ us hl => match us, hl with | [_, _], _ => rfl), m_takerows := He.meth_ok (c.fact 54 (f := .meth "Reader" "take_rows") rfl), f_readprog := _, fd_readprog := fd_readprog, D_readprog := ⟨HH.funOf F_readprog, (FunD.bindsN (ps := ["text"]) F_readprog fun _ _ _ _ _ _ us hl => match us, hl with | [_], _ => rfl), He.glo_ok X G (c.fact 55 (f := .glo "read_program") rfl)⟩, f_joined := _, fd_joined := fd_joined, D_joined := ⟨HH.funOf F_joined, (FunD.bindsN (ps := ["_law_draw", "_law_words_here"]) F_joined fun _ _ _ _ _ _ us hl => match us, hl with | [_, _], _ => rfl), He.glo_ok X G (c.fact 56 (f := .glo "_law_joined") rfl)⟩, f_turned := _, fd_turned := fd_turned, D_turned := ⟨HH.funOf F_turned, (FunD.bindsN (ps := ["_law_draw", "_law_heads_here"]) F_turned fun _ _ _ _ _ _ us hl => match us, hl with | [_, _], _ => rfl), He.glo_ok X G (c.fact 57 (f := .glo "_law_turned") rfl)⟩, f_lread := _, fd_lread := fd_lread, D_lread := ⟨HH.funOf F_lread, (FunD.bindsN (ps := ["_law_text"]) F_lread fun _ _ _ _ _ _ us hl => match us, hl with | [_], _ => rfl), He.glo_ok X G (c.fact 58 (f := .glo "_law_read") rfl)⟩, c_LETTERS := He.str_ok X G (c.fact 80 (f := .str "LETTERS" "abcdefghijklmnopqrstuvwxyz") rfl), a_KINDS := He.ga K "KINDS", c_KINDS := He.glo_ok X G (c.fact 81 (f := .glo "KINDS") rfl), t_KINDS := fun H => He.tupB_ok (c.ex_ 6 rfl) H, a_PARTS := He.ga K "PARTS", c_PARTS := He.glo_ok X G (c.fact 82 (f := .glo "PARTS") rfl), d_PARTS := HH.DT.of (c.ex_ 7 rfl) (c.dic 0 rfl) rfl, a_RANGES := He.ga K "RANGES", c_RANGES := He.glo_ok X G (c.fact 83 (f := .glo "RANGES") rfl), d_RANGES := HH.DT.of (c.ex_ 8 rfl) (c.dic 1 rfl) rfl, c_MOST_DEEP := He.int_ok X G (c.fact 84 (f := .int "MOST_DEEP" 9) rfl), c_MOST_OFTEN := He.int_ok X G (c.fact 85 (f := .int "MOST_OFTEN" 2) rfl), c_MOST_ROWS := He.int_ok X G (c.fact 86 (f := .int "MOST_ROWS" 60) rfl), c_MOST_NAMES := He.int_ok X G (c.fact 87 (f := .int "MOST_NAMES" 4) rfl), a_NUMBERED := He.ga K "NUMBERED", c_NUMBERED := He.glo_ok X G (c.fact 88 (f := .glo "NUMBERED") rfl), t_NUMBERED := fun H => He.tupB_ok (c.ex_ 9 rfl) H, all := He.free_ok X G (c.fact 89 (f := .free "all") rfl), bool := He.free_ok X G (c.fact 90 (f := .free "bool") rfl), dict := He.free_ok X G (c.fact 91 (f := .free "dict") rfl), enumerate := He.free_ok X G (c.fact 92 (f := .free "enumerate") rfl), int := He.free_ok X G (c.fact 93 (f := .free "int") rfl), isinstance := He.free_ok X G (c.fact 94 (f := .free "isinstance") rfl), len := He.free_ok X G (c.fact 95 (f := .free "len") rfl), list := He.free_ok X G (c.fact 96 (f := .free "list") rfl), range := He.free_ok X G (c.fact 97 (f := .free "range") rfl), set := He.free_ok X G (c.fact 98 (f := .free "set") rfl), sorted := He.free_ok X G (c.fact 99 (f := .free "sorted") rfl), str := He.free_ok X G (c.fact 100 (f := .free "str") rfl), tuple := He.free_ok X G (c.fact 101 (f := .free "tuple") rfl), zip := He.free_ok X G (c.fact 102 (f := .free "zip") rfl) }, HH.funOf F_law, fun s v => bl s [v] rfl⟩
end TP
open PySem PySem.W PySem.Calls PyProof.Rows
set_option maxRecDepth 100000 in
set_option maxHeartbeats 0 in
theorem PySem.Challenge.cw_nestyard_k77_whole_texts_read_back_holds : PySem.Challenge.rw_nestyard_k77_whole_texts_read_back.Holds := by
  w_on; o_law
  refine HandSHeadRun.head_any (r := OpenLaw.row PySem.Challenge.rw_nestyard_k77_whole_texts_read_back) (q := TP.qv) (H := TP.hk) (ob := TP.ob) (M := 4000) (loose := TP.names) (d := HandSHeadRun.topDef (OpenLaw.row PySem.Challenge.rw_nestyard_k77_whole_texts_read_back).prog 60) (kwd := []) TP.ob_eq
    (by kernel_rfl) (fun s => by kernel_rfl) TP.run (by kernel_rfl) (by kernel_rfl) (by kernel_rfl) (by rfl) (by first | assumption | decide +kernel) (by decide +kernel) ⟨rfl, rfl, rfl, rfl, rfl, by decide +kernel⟩ ?hw ?hc
  case hw => w_witness2
  case hc =>
    refine HH.walk_ofX (l := PySem.Challenge.rw_nestyard_k77_whole_texts_read_back) (n := 63) (k := 64) (x := "_law_script") (CX := L2.CX0) rfl (by decide) (by kernel_rfl) ⟨rfl, by decide, by decide⟩ ?F (fun _ _ _ _ z => z)
    intro w mg fa h Y G hmg0
    obtain ⟨K, KX, c⟩ := Y
    have hmg : mg ("law" : PySem.Str) = some (.ref fa) := by
      have e : (HandSHeadRun.topDef (OpenLaw.row PySem.Challenge.rw_nestyard_k77_whole_texts_read_back).prog 60).name = ("law" : PySem.Str) := by kernel_rfl
      rw [← e]
      exact hmg0
    obtain ⟨fd, T, F, hb⟩ := TP.facts KX G hmg c
    exact ⟨K, fd, TP.spLaw K, KX, hb, fun H a ns hl _ hS => ⟨a, ns, rfl, hS, hl, fun _ => rfl⟩, fun base _ _ => TP.ok_law F T⟩
