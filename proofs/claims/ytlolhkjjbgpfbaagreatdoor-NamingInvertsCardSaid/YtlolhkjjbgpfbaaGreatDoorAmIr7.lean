/-
  Rules for proofs over the plainer form: 'simp' runs it; loops go by an invariant.
-/
import Derived.Test.YtlolhkjjbgpfbaaGreatDoorAmIr6
set_option linter.all false
namespace Go.Am

/-- a loop, by an invariant over what is carried from round to round -/
theorem Wp.loopM {c : Cfg} {k : List Nat} {x : IR} {Q : Post} {α : Type} (m : α → Nat) (V : α → List (Option AV)) (B : α → List Box) (P : α → Prop)
    (step : ∀ a, P a → Wp c x (fun e v' b' => match e with
      | .normal => ∃ a', P a' ∧ m a' < m a ∧ killV k (turnV k (B a).length v' b') = V a' ∧ turnB k (B a).length v' b' = B a'
      | e => Q e v' b') (V a) (B a)) (a : α) (hp : P a) {v : List (Option AV)} (hv : killV k v = V a) {b : List Box} (hb : b = B a) : Wp c (.loop k x) Q v b := by
  subst hb
  have : ∀ (n : Nat) (a : α), m a < n → P a → ∀ v, killV k v = V a → roundsW (Wp c x) k Q n v (B a) := by
    intro n
    induction n with
    | zero => intro a h; omega
    | succ n ih =>
      intro a hn hp v hv
      show Wp c x _ (killV k v) (B a)
      rw [hv]
      refine Wp.mono x (fun e v' b' hq => ?_) _ _ (step a hp)
      cases e with
      | normal =>
        obtain ⟨a', h1, h2, h3, h4⟩ := hq
        simp only
        rw [h4]
        exact ih a' (by omega) h1 _ h3
      | ret => exact hq
      | exit i => exact hq
  exact ⟨m a + 1, this (m a + 1) a (by omega) hp v hv⟩

/-- a round of a range over a function, by its code's plainer form -/
theorem yld_of_wp {c : Cfg} {k : Nat} {s : Site} {env args : List AV} {bs : List Box} {r : AV × List Box} {asg body : IR} (hl : lowSite c s = some (asg, body)) (hn : args.length = s.ps.size) (he : env.length = s.keep.length) (hk : Box.at bs k = .loop .ready)
    (hw : Wp c asg (fun e v1 b1 => e = .normal ∧ Box.at b1 k = .loop .ready ∧ Wp c body (fun e _ b2 => Box.at b2 k = .loop .busy ∧ (AV.bool e.isNormal, cutB bs.length (b2.set k (.loop (endSt e)))) = r) v1 (b1.set k (.loop .busy))) (roundV s env args) bs) :
    ansT c (.yld k s env) args bs = some r := by
  rw [ansT_iff]
  obtain ⟨n, e, v1, b1, h1, rfl, h2, h3⟩ := wp_exec _ _ _ _ hw
  obtain ⟨n2, e2, v2, b2, h4, h5, h6⟩ := wp_exec _ _ _ _ h3
  refine ⟨max n n2, ?_⟩
  have k1 := execI_le c (Nat.le_max_left n n2) h1
  have k2 := execI_le c (Nat.le_max_right n n2) h4
  have hlen : (args.length == s.ps.size && env.length == s.keep.length) = true := by simp [hn, he]
  simp only [cfN, callI, hl, hlen, hk, k1, h2, k2, yldEnd, h5, h6]

/-- a range over a function, by what the function answers -/
theorem Wp.rng {c : Cfg} {x : Nat} {s : Site} {Q : Post} {v : List (Option AV)} {b : List Box} {f : FuncId} {caps : List AV} (hx : vget v x = some (.fn f [] caps)) (he : c.ext f = none) {r : AV} {b' : List Box} {st : LSt} {e : Ex}
    (ha : ansF c f (.yld b.length s (v.map (·.getD .any)) :: caps) (b ++ [.loop .ready]) = some (r, b')) (hb : Box.at b' b.length = .loop st) (hst : st = endSt e) (hQ : Q e (cutV b.length v b') (cutB b.length b')) : Wp c (.rng x s) Q v b := by
  have ha' : ansT c (.fn f) (.yld b.length s (v.map (·.getD .any)) :: caps) (b ++ [.loop .ready]) = some (r, b') := ha
  simp only [Wp, rngW, rngI, hx, he, ha', rngE, hb, hst]
  cases e <;> exact hQ

section
variable {c : Cfg} {Q : Post} {v : List (Option AV)} {b : List Box}
@[simp] theorem Wp_skip : Wp c .skip Q v b = Q .normal v b := rfl
@[simp] theorem Wp_ret : Wp c .ret Q v b = Q .ret v b := rfl
@[simp] theorem Wp_stuck : Wp c .stuck Q v b = False := rfl
@[simp] theorem Wp_own (l : List Own) : Wp c (.own l) Q v b = Q .normal (ownAll l v b).1 (ownAll l v b).2 := rfl
@[simp] theorem Wp_exit (i : Nat) : Wp c (.exit i) Q v b = Q (.exit i) v b := rfl
@[simp] theorem Wp_seq (x y : IR) : Wp c (.seq x y) Q v b = Wp c x (thenW (Wp c y) Q) v b := rfl
@[simp] theorem Wp_block (i : Nat) (x : IR) : Wp c (.block i x) Q v b = Wp c x (fun e v b => Q (leave i e) v b) v b := rfl
@[simp] theorem Wp_reg (n : Nat) (kl : List Nat) (its : List It) : Wp c (.reg n kl its) Q v b = regW (runIts c (ansT c) b.length kl its v (b ++ List.replicate n .dead)) Q := rfl
@[simp] theorem Wp_cond (x : Nat) (p q : IR) : Wp c (.cond x p q) Q v b = condW (vget v x) (Wp c p Q (v.set x none) b) (Wp c q Q (v.set x none) b) := rfl
@[simp] theorem thenW_normal (W : Post → List (Option AV) → List Box → Prop) : thenW W Q .normal v b = W Q v b := rfl
@[simp] theorem thenW_ret (W : Post → List (Option AV) → List Box → Prop) : thenW W Q .ret v b = Q .ret v b := rfl
@[simp] theorem thenW_exit (W : Post → List (Option AV) → List Box → Prop) (i : Nat) : thenW W Q (.exit i) v b = Q (.exit i) v b := rfl
@[simp] theorem regW_some : regW (some (v, b)) Q = Q .normal v b := rfl
@[simp] theorem regW_none : regW none Q = False := rfl
@[simp] theorem condW_bool (x : Bool) (p q : Prop) : condW (some (.bool x)) p q = if x = true then p else q := by cases x <;> simp [condW]
@[simp] theorem leave_normal (i : Nat) : leave i .normal = .normal := rfl
@[simp] theorem leave_ret (i : Nat) : leave i .ret = .ret := rfl
@[simp] theorem leave_exit (i j : Nat) : leave i (.exit j) = if j = i then .normal else .exit j := rfl
@[simp] theorem endW_normal (own : Bool) (res : List Res) (n : Nat) (r : AV × List Box) : endW c own res n r .normal v b = (endI c own res n v b = some r) := rfl
@[simp] theorem endW_ret (own : Bool) (res : List Res) (n : Nat) (r : AV × List Box) : endW c own res n r .ret v b = (endI c own res n v b = some r) := rfl
@[simp] theorem andV_bool (p q : Bool) : andV (some (.bool p)) (some (.bool q)) = some (.bool (p && q)) := by cases p <;> rfl
@[simp] theorem orV_bool (p q : Bool) : orV (some (.bool p)) (some (.bool q)) = some (.bool (p || q)) := by cases p <;> rfl
@[simp] theorem andV_true (x : Option AV) : andV (some (.bool true)) x = x := rfl
@[simp] theorem andV_false (x : Option AV) : andV (some (.bool false)) x = some (.bool false) := rfl
@[simp] theorem orV_true (x : Option AV) : orV (some (.bool true)) x = some (.bool true) := rfl
@[simp] theorem orV_false (x : Option AV) : orV (some (.bool false)) x = x := rfl
@[simp] theorem ap1_s (a : AV) (f : AV → Option AV) : ap1 (some a) f = f a := rfl
@[simp] theorem ap2_s (a d : AV) (f : AV → AV → Option AV) : ap2 (some a) (some d) f = f a d := rfl
@[simp] theorem ap3_s (a d e : AV) (f : AV → AV → AV → Option AV) : ap3 (some a) (some d) (some e) f = f a d e := rfl
@[simp] theorem out1_s (a : AV) : out1 (some (a, .none)) = some a := rfl
end

attribute [simp] softF softC fresh1 lowV AV.isNil ownAll own1 lent1 runIts parV evE setAll setO wantI wantV effI hardI softI isStore calmI calmV binN nilC nilCmp opv look doOpE aopE guardV lenT endI handW resultsI resI handI cutB cutV turnV turnB underV handV keepBy killV startV killAll
  ev ofVal ofCell Tr.get Eff.on asks pickA intOp shiftOp strOp
  indexA extractA loadA storeA fieldAddrA fieldA indexAddrA moveA nilCheckA convertA makeSliceA buildA rangeA nextA buildSliceA buildSliceL allocA boxA builtinA lenA appendA appendTo elems partA partT slice2A slice3A boundA sizeIs isZero
  mkElem fillA setElems placeF placeE eqRec eqCell eqFields eqItems both cellsOk AV.plain plainAll AV.flat flatAll zeroOk
  callA callP callL lendAll leavesAll lentBack hasOsl shareAll oneOr AV.hand handAll AV.under underAll forget forgetBox bytesOf byteOf bytesN dataA textA minA maxA
attribute [simp] List.getElem?_cons_zero
@[simp] theorem opTmps_sc (ty a : Nat) (v : Value) : opTmps (.store ty (.tmp a) (.const v)) = [a] := rfl
@[simp] theorem opTmps_st (ty a b : Nat) : opTmps (.store ty (.tmp a) (.tmp b)) = [a, b] := rfl
@[simp] theorem opTmps_sf (ty a f : Nat) : opTmps (.store ty (.tmp a) (.func f)) = [a] := rfl
@[simp] theorem storeElem_agg (cs : List AV) (off : Nat) (v : List AV) : storeElem (.agg cs) off v = if off + v.length ≤ cs.length ∧ plainAll v = true then some (.agg (splice cs off v)) else .none := rfl
@[simp] theorem storeElem_int (k : IntKind) (n : Int) (k' : IntKind) (n' : Int) : storeElem (.int k n) 0 [.int k' n'] = some (.int k' n') := rfl
@[simp] theorem storeElem_str (a b : List UInt8) : storeElem (.str a) 0 [.str b] = some (.str b) := rfl
@[simp] theorem storeElem_bool (a b : Bool) : storeElem (.bool a) 0 [.bool b] = some (.bool b) := rfl
@[simp] theorem vget_zero (a : Option AV) (l : List (Option AV)) : vget (a :: l) 0 = a := rfl
@[simp] theorem vget_succ (a : Option AV) (l : List (Option AV)) (n : Nat) : vget (a :: l) (n + 1) = vget l n := rfl
@[simp] theorem vget_nil (n : Nat) : vget [] n = none := by simp [vget]
@[simp] theorem at_zero (a : Box) (l : List Box) : Box.at (a :: l) 0 = a := rfl
@[simp] theorem at_succ (a : Box) (l : List Box) (n : Nat) : Box.at (a :: l) (n + 1) = Box.at l n := rfl
@[simp] theorem at_nil (n : Nat) : Box.at [] n = .dead := by simp [Box.at]
@[simp] theorem isCell_any  : (AV.any).isCell = false := rfl
@[simp] theorem cells_any  : (AV.any).cells = [(AV.any)] := rfl
@[simp] theorem lend_any (bs : List Box)  : lend bs (AV.any) = some (AV.any) := rfl
@[simp] theorem binA_eql_any (c : Cfg) (ty : TypeId) (y : AV)  : binA c ty .eql (AV.any) y = (eqRec c 20 ty (AV.any) y).map .bool := by unfold binA; rfl
@[simp] theorem binA_neq_any (c : Cfg) (ty : TypeId) (y : AV)  : binA c ty .neq (AV.any) y = (eqRec c 20 ty (AV.any) y).map fun b => .bool (!b) := by unfold binA; rfl
@[simp] theorem isCell_unk  : (AV.unk).isCell = true := rfl
@[simp] theorem cells_unk  : (AV.unk).cells = [(AV.unk)] := rfl
@[simp] theorem lend_unk (bs : List Box)  : lend bs (AV.unk) = some (AV.unk) := rfl
@[simp] theorem binA_eql_unk (c : Cfg) (ty : TypeId) (y : AV)  : binA c ty .eql (AV.unk) y = (eqRec c 20 ty (AV.unk) y).map .bool := by unfold binA; rfl
@[simp] theorem binA_neq_unk (c : Cfg) (ty : TypeId) (y : AV)  : binA c ty .neq (AV.unk) y = (eqRec c 20 ty (AV.unk) y).map fun b => .bool (!b) := by unfold binA; rfl
@[simp] theorem isCell_int (k : IntKind) (n : Int) : (AV.int k n).isCell = true := rfl
@[simp] theorem cells_int (k : IntKind) (n : Int) : (AV.int k n).cells = [(AV.int k n)] := rfl
@[simp] theorem lend_int (bs : List Box) (k : IntKind) (n : Int) : lend bs (AV.int k n) = some (AV.int k n) := rfl
@[simp] theorem isCell_bool (b : Bool) : (AV.bool b).isCell = true := rfl
@[simp] theorem cells_bool (b : Bool) : (AV.bool b).cells = [(AV.bool b)] := rfl
@[simp] theorem lend_bool (bs : List Box) (b : Bool) : lend bs (AV.bool b) = some (AV.bool b) := rfl
@[simp] theorem binA_eql_bool (c : Cfg) (ty : TypeId) (y : AV) (b : Bool) : binA c ty .eql (AV.bool b) y = (eqRec c 20 ty (AV.bool b) y).map .bool := by unfold binA; rfl
@[simp] theorem binA_neq_bool (c : Cfg) (ty : TypeId) (y : AV) (b : Bool) : binA c ty .neq (AV.bool b) y = (eqRec c 20 ty (AV.bool b) y).map fun b => .bool (!b) := by unfold binA; rfl
@[simp] theorem isCell_str (s : List UInt8) : (AV.str s).isCell = true := rfl
@[simp] theorem cells_str (s : List UInt8) : (AV.str s).cells = [(AV.str s)] := rfl
@[simp] theorem lend_str (bs : List Box) (s : List UInt8) : lend bs (AV.str s) = some (AV.str s) := rfl
@[simp] theorem isCell_agg (cs : List AV) : (AV.agg cs).isCell = false := rfl
@[simp] theorem cells_agg (cs : List AV) : (AV.agg cs).cells = cs := rfl
@[simp] theorem leaves_any  : (AV.any ).leaves = [AV.any ] := rfl
@[simp] theorem leaves_unk  : (AV.unk ).leaves = [AV.unk ] := rfl
@[simp] theorem leaves_int (k : IntKind) (n : Int) : (AV.int k n).leaves = [AV.int k n] := rfl
@[simp] theorem leaves_bool (b : Bool) : (AV.bool b).leaves = [AV.bool b] := rfl
@[simp] theorem leaves_str (s : List UInt8) : (AV.str s).leaves = [AV.str s] := rfl
@[simp] theorem leaves_tup (vs : List AV) : (AV.tup vs).leaves = [AV.tup vs] := rfl
@[simp] theorem leaves_nilp  : (AV.nilp ).leaves = [AV.nilp ] := rfl
@[simp] theorem leaves_ptr (k off : Nat) : (AV.ptr k off).leaves = [AV.ptr k off] := rfl
@[simp] theorem leaves_sptr (k n i off : Nat) : (AV.sptr k n i off).leaves = [AV.sptr k n i off] := rfl
@[simp] theorem leaves_eptr (cs : List AV) : (AV.eptr cs).leaves = [AV.eptr cs] := rfl
@[simp] theorem leaves_lst (nl : Option Bool) (sz : Nat) (es : List AV) : (AV.lst nl sz es).leaves = [AV.lst nl sz es] := rfl
@[simp] theorem leaves_cap0 (nl : Option Bool) : (AV.cap0 nl).leaves = [AV.cap0 nl] := rfl
@[simp] theorem leaves_osl (k n : Nat) : (AV.osl k n).leaves = [AV.osl k n] := rfl
@[simp] theorem leaves_fn (f : FuncId) (a b : List AV) : (AV.fn f a b).leaves = [AV.fn f a b] := rfl
@[simp] theorem leaves_nilf  : (AV.nilf ).leaves = [AV.nilf ] := rfl
@[simp] theorem leaves_ifc (b : Bool) : (AV.ifc b).leaves = [AV.ifc b] := rfl
@[simp] theorem leaves_yld (k : Nat) (s : Site) (env : List AV) : (AV.yld k s env).leaves = [AV.yld k s env] := rfl
@[simp] theorem lend_agg (bs : List Box) (cs : List AV) : lend bs (AV.agg cs) = if plainAll cs = true then some (AV.agg cs) else (lendAll bs cs).map .agg := by
  simp only [lend]
  cases plainAll cs <;> rfl
@[simp] theorem leaves_agg (cs : List AV) : (AV.agg cs).leaves = if plainAll cs = true then [] else leavesAll cs := by
  simp only [AV.leaves]
  cases plainAll cs <;> rfl
@[simp] theorem binA_eql_agg (c : Cfg) (ty : TypeId) (y : AV) (cs : List AV) : binA c ty .eql (AV.agg cs) y = (eqRec c 20 ty (AV.agg cs) y).map .bool := by unfold binA; rfl
@[simp] theorem binA_neq_agg (c : Cfg) (ty : TypeId) (y : AV) (cs : List AV) : binA c ty .neq (AV.agg cs) y = (eqRec c 20 ty (AV.agg cs) y).map fun b => .bool (!b) := by unfold binA; rfl
@[simp] theorem isCell_tup (vs : List AV) : (AV.tup vs).isCell = false := rfl
@[simp] theorem cells_tup (vs : List AV) : (AV.tup vs).cells = [(AV.tup vs)] := rfl
@[simp] theorem lend_tup (bs : List Box) (vs : List AV) : lend bs (AV.tup vs) = some (AV.tup vs) := rfl
@[simp] theorem binA_eql_tup (c : Cfg) (ty : TypeId) (y : AV) (vs : List AV) : binA c ty .eql (AV.tup vs) y = (eqRec c 20 ty (AV.tup vs) y).map .bool := by unfold binA; rfl
@[simp] theorem binA_neq_tup (c : Cfg) (ty : TypeId) (y : AV) (vs : List AV) : binA c ty .neq (AV.tup vs) y = (eqRec c 20 ty (AV.tup vs) y).map fun b => .bool (!b) := by unfold binA; rfl
@[simp] theorem isCell_nilp  : (AV.nilp).isCell = true := rfl
@[simp] theorem cells_nilp  : (AV.nilp).cells = [(AV.nilp)] := rfl
@[simp] theorem lend_nilp (bs : List Box)  : lend bs (AV.nilp) = some (AV.nilp) := rfl
@[simp] theorem binA_eql_nilp (c : Cfg) (ty : TypeId) (y : AV)  : binA c ty .eql (AV.nilp) y = (eqRec c 20 ty (AV.nilp) y).map .bool := by unfold binA; rfl
@[simp] theorem binA_neq_nilp (c : Cfg) (ty : TypeId) (y : AV)  : binA c ty .neq (AV.nilp) y = (eqRec c 20 ty (AV.nilp) y).map fun b => .bool (!b) := by unfold binA; rfl
@[simp] theorem isCell_ptr (k off : Nat) : (AV.ptr k off).isCell = true := rfl
@[simp] theorem cells_ptr (k off : Nat) : (AV.ptr k off).cells = [(AV.ptr k off)] := rfl
@[simp] theorem lend_ptr (bs : List Box) (k off : Nat) : lend bs (AV.ptr k off) = some (AV.ptr k off) := rfl
@[simp] theorem binA_eql_ptr (c : Cfg) (ty : TypeId) (y : AV) (k off : Nat) : binA c ty .eql (AV.ptr k off) y = (eqRec c 20 ty (AV.ptr k off) y).map .bool := by unfold binA; rfl
@[simp] theorem binA_neq_ptr (c : Cfg) (ty : TypeId) (y : AV) (k off : Nat) : binA c ty .neq (AV.ptr k off) y = (eqRec c 20 ty (AV.ptr k off) y).map fun b => .bool (!b) := by unfold binA; rfl
@[simp] theorem isCell_sptr (k n i off : Nat) : (AV.sptr k n i off).isCell = true := rfl
@[simp] theorem cells_sptr (k n i off : Nat) : (AV.sptr k n i off).cells = [(AV.sptr k n i off)] := rfl
@[simp] theorem lend_sptr (bs : List Box) (k n i off : Nat) : lend bs (AV.sptr k n i off) = some (AV.sptr k n i off) := rfl
@[simp] theorem binA_eql_sptr (c : Cfg) (ty : TypeId) (y : AV) (k n i off : Nat) : binA c ty .eql (AV.sptr k n i off) y = (eqRec c 20 ty (AV.sptr k n i off) y).map .bool := by unfold binA; rfl
@[simp] theorem binA_neq_sptr (c : Cfg) (ty : TypeId) (y : AV) (k n i off : Nat) : binA c ty .neq (AV.sptr k n i off) y = (eqRec c 20 ty (AV.sptr k n i off) y).map fun b => .bool (!b) := by unfold binA; rfl
@[simp] theorem isCell_eptr (cs : List AV) : (AV.eptr cs).isCell = true := rfl
@[simp] theorem cells_eptr (cs : List AV) : (AV.eptr cs).cells = [(AV.eptr cs)] := rfl
@[simp] theorem lend_eptr (bs : List Box) (cs : List AV) : lend bs (AV.eptr cs) = some (AV.eptr cs) := rfl
@[simp] theorem binA_eql_eptr (c : Cfg) (ty : TypeId) (y : AV) (cs : List AV) : binA c ty .eql (AV.eptr cs) y = (eqRec c 20 ty (AV.eptr cs) y).map .bool := by unfold binA; rfl
@[simp] theorem binA_neq_eptr (c : Cfg) (ty : TypeId) (y : AV) (cs : List AV) : binA c ty .neq (AV.eptr cs) y = (eqRec c 20 ty (AV.eptr cs) y).map fun b => .bool (!b) := by unfold binA; rfl
@[simp] theorem isCell_lst (nl : Option Bool) (sz : Nat) (es : List AV) : (AV.lst nl sz es).isCell = true := rfl
@[simp] theorem cells_lst (nl : Option Bool) (sz : Nat) (es : List AV) : (AV.lst nl sz es).cells = [(AV.lst nl sz es)] := rfl
@[simp] theorem lend_lst (bs : List Box) (nl : Option Bool) (sz : Nat) (es : List AV) : lend bs (AV.lst nl sz es) = some (AV.lst nl sz es) := rfl
@[simp] theorem binA_eql_lst (c : Cfg) (ty : TypeId) (y : AV) (nl : Option Bool) (sz : Nat) (es : List AV) : binA c ty .eql (AV.lst nl sz es) y = (eqRec c 20 ty (AV.lst nl sz es) y).map .bool := by unfold binA; rfl
@[simp] theorem binA_neq_lst (c : Cfg) (ty : TypeId) (y : AV) (nl : Option Bool) (sz : Nat) (es : List AV) : binA c ty .neq (AV.lst nl sz es) y = (eqRec c 20 ty (AV.lst nl sz es) y).map fun b => .bool (!b) := by unfold binA; rfl
@[simp] theorem isCell_cap0 (nl : Option Bool) : (AV.cap0 nl).isCell = true := rfl
@[simp] theorem cells_cap0 (nl : Option Bool) : (AV.cap0 nl).cells = [(AV.cap0 nl)] := rfl
@[simp] theorem lend_cap0 (bs : List Box) (nl : Option Bool) : lend bs (AV.cap0 nl) = some (AV.cap0 nl) := rfl
@[simp] theorem binA_eql_cap0 (c : Cfg) (ty : TypeId) (y : AV) (nl : Option Bool) : binA c ty .eql (AV.cap0 nl) y = (eqRec c 20 ty (AV.cap0 nl) y).map .bool := by unfold binA; rfl
@[simp] theorem binA_neq_cap0 (c : Cfg) (ty : TypeId) (y : AV) (nl : Option Bool) : binA c ty .neq (AV.cap0 nl) y = (eqRec c 20 ty (AV.cap0 nl) y).map fun b => .bool (!b) := by unfold binA; rfl
@[simp] theorem isCell_osl (k n : Nat) : (AV.osl k n).isCell = true := rfl
@[simp] theorem cells_osl (k n : Nat) : (AV.osl k n).cells = [(AV.osl k n)] := rfl
@[simp] theorem binA_eql_osl (c : Cfg) (ty : TypeId) (y : AV) (k n : Nat) : binA c ty .eql (AV.osl k n) y = (eqRec c 20 ty (AV.osl k n) y).map .bool := by unfold binA; rfl
@[simp] theorem binA_neq_osl (c : Cfg) (ty : TypeId) (y : AV) (k n : Nat) : binA c ty .neq (AV.osl k n) y = (eqRec c 20 ty (AV.osl k n) y).map fun b => .bool (!b) := by unfold binA; rfl
@[simp] theorem isCell_fn (f : FuncId) (first caps : List AV) : (AV.fn f first caps).isCell = true := rfl
@[simp] theorem cells_fn (f : FuncId) (first caps : List AV) : (AV.fn f first caps).cells = [(AV.fn f first caps)] := rfl
@[simp] theorem lend_fn (bs : List Box) (f : FuncId) (first caps : List AV) : lend bs (AV.fn f first caps) = some (AV.fn f first caps) := rfl
@[simp] theorem binA_eql_fn (c : Cfg) (ty : TypeId) (y : AV) (f : FuncId) (first caps : List AV) : binA c ty .eql (AV.fn f first caps) y = (eqRec c 20 ty (AV.fn f first caps) y).map .bool := by unfold binA; rfl
@[simp] theorem binA_neq_fn (c : Cfg) (ty : TypeId) (y : AV) (f : FuncId) (first caps : List AV) : binA c ty .neq (AV.fn f first caps) y = (eqRec c 20 ty (AV.fn f first caps) y).map fun b => .bool (!b) := by unfold binA; rfl
@[simp] theorem isCell_nilf  : (AV.nilf).isCell = true := rfl
@[simp] theorem cells_nilf  : (AV.nilf).cells = [(AV.nilf)] := rfl
@[simp] theorem lend_nilf (bs : List Box)  : lend bs (AV.nilf) = some (AV.nilf) := rfl
@[simp] theorem binA_eql_nilf (c : Cfg) (ty : TypeId) (y : AV)  : binA c ty .eql (AV.nilf) y = (eqRec c 20 ty (AV.nilf) y).map .bool := by unfold binA; rfl
@[simp] theorem binA_neq_nilf (c : Cfg) (ty : TypeId) (y : AV)  : binA c ty .neq (AV.nilf) y = (eqRec c 20 ty (AV.nilf) y).map fun b => .bool (!b) := by unfold binA; rfl
@[simp] theorem isCell_ifc (b : Bool) : (AV.ifc b).isCell = true := rfl
@[simp] theorem cells_ifc (b : Bool) : (AV.ifc b).cells = [(AV.ifc b)] := rfl
@[simp] theorem lend_ifc (bs : List Box) (b : Bool) : lend bs (AV.ifc b) = some (AV.ifc b) := rfl
@[simp] theorem isCell_yld (k : Nat) (s : Site) (env : List AV) : (AV.yld k s env).isCell = true := rfl
@[simp] theorem cells_yld (k : Nat) (s : Site) (env : List AV) : (AV.yld k s env).cells = [AV.yld k s env] := rfl
@[simp] theorem lend_yld (bs : List Box) (k : Nat) (s : Site) (env : List AV) : lend bs (AV.yld k s env) = some (AV.yld k s env) := rfl
@[simp] theorem lend_osl (bs : List Box) (k n : Nat) : lend bs (.osl k n) = match Box.at bs k with | .sl _ sz es => if n = es.length then some (.lst .none sz es) else .none | _ => .none := rfl
@[simp] theorem binA_int (c : Cfg) (ty : TypeId) (op : BinOp) (k k' : IntKind) (a b : Int) : binA c ty op (.int k a) (.int k' b) = match op with | .shl => shiftOp .shl k a b | .shr => shiftOp .shr k a b | op => if k = k' then intOp op k a b else none := rfl
@[simp] theorem binA_str (c : Cfg) (ty : TypeId) (op : BinOp) (a b : List UInt8) : binA c ty op (.str a) (.str b) = strOp op a b := rfl
@[simp] theorem unA_neg (k : IntKind) (n : Int) : unA .neg (.int k n) = intOp .sub k 0 n := rfl
@[simp] theorem unA_xor (k : IntKind) (n : Int) : unA .xor (.int k n) = intOp .xor k (if k.signed then -1 else k.max) n := rfl
@[simp] theorem unA_not (b : Bool) : unA .not (.bool b) = some (.bool (!b)) := rfl
@[simp] theorem toInt1_int (k k' : IntKind) (n : Int) : toInt1 k (.int k' n) = some (.int k (k.wrap n)) := rfl
@[simp] theorem lenS1_str (s : List UInt8) : lenS1 (.str s) = some (.int .i64 s.length) := rfl
@[simp] theorem sliceS_str (s : List UInt8) (lo hi : Option AV) : sliceS (.str s) lo hi = match boundA hi s.length s.length with | some h => (match boundA lo 0 h with | some l => some (.str ((s.take h).drop l)) | none => none) | none => none := rfl
end Go.Am
