/-
  DigestStreams, for the abstract machine.
-/
import Derived.Test.YtfplnlmddcchjaaClones
import Derived.Test.YtfplnlmddcchjaaAmShape2
namespace Go.Proofs.Ytfplnlmddcchjaa
open Go.Am Go.RowKit
set_option maxRecDepth 10000
set_option maxHeartbeats 4000000

/-- the parts of one call: is the slice nil, the cells of an element, the strings -/
structure Parts where
  nl : Bool
  sz : Nat
  ps : List Str
def Parts.av (p : Parts) : AV := .lst (some p.nl) p.sz (p.ps.map .str)
def Parts.ok (p : Parts) : Prop := (∀ i, i < p.ps.length → p.sz = 1) ∧ (p.nl = true → p.sz = 0 ∧ p.ps = [])
@[simp] theorem Parts.av_isCell (p : Parts) : p.av.isCell = true := rfl
@[simp] theorem Parts.av_cells (p : Parts) : p.av.cells = [p.av] := rfl
@[simp] theorem Parts.av_plain (p : Parts) : p.av.plain = true := rfl
@[simp] theorem Parts.av_lend (p : Parts) (bs : List Box) : lend bs p.av = some p.av := rfl

theorem args_calls {xs : List AV} (h : ShpArgs Try.prog [34] xs) : ∃ (nl : Bool) (z : Nat) (l : List Parts), xs = [.lst (some nl) z (l.map Parts.av)] ∧ (∀ i, i < l.length → z = 1) ∧ ∀ a ∈ l, a.ok := by
  obtain ⟨n, cs, r, rfl, h1, rfl⟩ := h
  obtain ⟨nl, z, l, rfl, h2, _, _, h3⟩ := h1.sliceMap Parts.av Parts.ok (e := 38) (by kernel_rfl) 1 (by kernel_rfl) (by decide) (by
    intro m cs hc
    obtain ⟨nl, z, l, rfl, h2, h4, _, _⟩ := hc.sliceMap (fun s : Str => AV.str s) (fun _ => True) (e := 9) (by kernel_rfl) 1 (by kernel_rfl) (by decide) (by
      intro m cs hc
      obtain ⟨s, rfl, _⟩ := hc.str (by kernel_rfl)
      exact ⟨s, trivial, by rw [show aggU (Try.prog.underlying 9) = false by kernel_rfl]; rfl⟩)
    exact ⟨⟨nl, z, l⟩, ⟨h2, h4⟩, by rw [show aggU (Try.prog.underlying 38) = false by kernel_rfl]; rfl⟩)
  exact ⟨nl, z, l, by rw [show aggU (Try.prog.underlying 34) = false by kernel_rfl]; rfl, h2, h3⟩

theorem bytes_take (ps : List Str) : ∀ n, bytesN' ps n = (ps.take n).flatten.length
  | 0 => by simp [bytesN']
  | n + 1 => by
    rw [bytesN', bytes_take ps n, List.take_add_one]
    cases h : ps[n]? with
    | none => simp [List.getD_eq_getElem?_getD, h]
    | some x => simp [List.getD_eq_getElem?_getD, h]
theorem bytes_le (ps : List Str) (n : Nat) : bytesN' ps n ≤ ps.flatten.length := by
  rw [bytes_take]
  conv => rhs; rw [← List.take_append_drop n ps]
  simp only [List.flatten_append, List.length_append]
  omega

/-- one call of Write -/
theorem ansWriteP (d : Str) (p : Parts) (hp : p.ok) (hb : d.length + p.ps.flatten.length < 100000000) (hn : p.ps.length < 1000000) :
    ansF cfg 21 [.ptr 0 0, p.av] [.var 59 (hash0.write1 d).av] = some (.int .i64 ((d.length : Int) + p.ps.flatten.length), [.var 59 (hash0.write1 (d ++ p.ps.flatten)).av]) := by
  obtain ⟨nl, sz, ps⟩ := p
  by_cases h0 : ps = []
  · subst h0
    have hs := write_st d
    have ht := write_taken d
    refine ans_of_wp fn21 low21 ?_
    simp (disch := omega) [-List.map_replicate, -List.map_set, -List.getD_eq_getElem?_getD, -getElem?_pos, -getElem?_neg, ir21, Parts.av]
    refine Wp.loopM (fun (_ : Unit) => 0) (fun _ => [some (.ptr 0 0), none, none, none, some (.lst (some nl) sz []), some (.int .i64 0), some (.int .i64 0), none, none, none])
      (fun _ => [.var 59 (hash0.write1 d).av]) (fun _ => True) ?_ () trivial (by simp) rfl
    intro _ _
    simp (disch := omega) [-List.map_replicate, -List.map_set, -List.getD_eq_getElem?_getD, -getElem?_pos, -getElem?_neg, av_taken, ht]
  · have h1 : sz = 1 := hp.1 0 (List.length_pos_iff.2 h0)
    subst h1
    have h := ansWrite [.var 59 (hash0.write1 d).av] 0 (hash0.write1 d) rfl (write_st d) (write_rest d) (by rw [write_taken]; omega) (some nl) ps (fun n => by
      have := bytes_le ps n
      simp only at hb
      rw [write_taken]; omega) (by simp only at hn; omega)
    have e : (hash0.write1 d).writeN ps ps.length = hash0.write1 (d ++ ps.flatten) := by rw [writeN_eq _ (write_rest d) ps _ (by omega), write1_app, List.take_length]
    rw [e, write_taken] at h
    simpa [Parts.av] using h

/-- what the first calls have brought -/
def allN (l : List Parts) (i : Nat) : Str := ((l.take i).map fun p => p.ps.flatten).flatten
theorem allN_succ (l : List Parts) (i : Nat) (p : Parts) (h : l[i]? = some p) : allN l (i + 1) = allN l i ++ p.ps.flatten := by
  simp [allN, List.take_add_one, h]
theorem take_succ_flat (ps : List Str) (j : Nat) (s : Str) (h : ps[j]? = some s) : (ps.take (j + 1)).flatten = (ps.take j).flatten ++ s := by
  simp [List.take_add_one, h]

theorem ansStreams {xs : List AV} (h : ShpArgs Try.prog [34] xs) : ansF cfg 7 xs [] = some (.bool true, []) := by
  obtain ⟨nl, z, l, rfl, hz, hok⟩ := args_calls h
  refine ans_of_wp fn7 low7 ?_
  by_cases hl : l.length ≤ 12
  · have e0 : hash0 = hash0.write1 [] := (write1_nil hash0 (by decide)).symm
    have s0 := ansSum1 [.var 59 hash0.av] (by simp [shut, av_under]) 0 [] (by rw [← e0]; rfl)
    have p0 := ansSumP [] (by simp)
    simp (disch := omega) [-List.map_replicate, -List.map_set, -List.getD_eq_getElem?_getD, -getElem?_pos, -getElem?_neg, omLtN, onLeN, onEqN, ir7, ansAwake, ansNew, s0, p0]
    refine Wp.loopM (fun (a : Nat × Option AV × Option AV) => l.length - a.1) (fun a => [none, none, some (.ptr 0 0), some (.str (allN l a.1)), none, none, none, none, none, none, none, none, none, some (.lst (some nl) z (l.map Parts.av)), some (.int .i64 l.length), some (.int .i64 a.1), none, none, none, none, none, none, none, none, a.2.1, a.2.2, none])
      (fun a => [.var 59 (hash0.write1 (allN l a.1)).av]) (fun a => a.1 ≤ l.length ∧ (allN l a.1).length ≤ 750 * a.1) ?_ (0, none, none) (by simp [allN]) (by simp [allN]) (by simp [allN, ← e0])
    rintro ⟨i, x, y⟩ ⟨hi, hb⟩
    simp only at hi hb ⊢
    by_cases h1 : i < l.length
    · obtain rfl : z = 1 := hz i h1
      have hg : l[i]? = some l[i] := List.getElem?_eq_getElem h1
      have hpk := hok l[i] (List.getElem_mem h1)
      have hN := allN_succ l i _ hg
      generalize l[i] = p at hg hpk hN
      by_cases h2 : p.ps.length ≤ 5
      · simp (disch := omega) [-List.map_replicate, -List.map_set, -List.getD_eq_getElem?_getD, -getElem?_pos, -getElem?_neg, omLe, omLt, omLtN, onLeN, hg, Parts.av]
        refine Wp.loopM (fun (j : Nat) => p.ps.length - j) (fun j => [none, none, some (.ptr 0 0), some (.str (allN l i ++ (p.ps.take j).flatten)), some p.av, none, none, none, none, none, none, none, none, some (.lst (some nl) 1 (l.map Parts.av)), some (.int .i64 l.length), some (.int .i64 i), none, none, some p.av, some (.int .i64 p.ps.length), some (.int .i64 j), none, none, none, x, y, none])
          (fun _ => [.var 59 (hash0.write1 (allN l i)).av]) (fun j => j ≤ p.ps.length ∧ (allN l i ++ (p.ps.take j).flatten).length ≤ 750 * i + 150 * j) ?_ 0 ⟨by omega, by simp; omega⟩ (by simp [Parts.av]) rfl
        rintro j ⟨hj, hbj⟩
        by_cases h3 : j < p.ps.length
        · have hs1 := hpk.1 j h3
          have hgj : p.ps[j]? = some p.ps[j] := List.getElem?_eq_getElem h3
          have hT := take_succ_flat p.ps j _ hgj
          generalize p.ps[j] = s at hgj hT
          have hT2 : allN l i ++ (p.ps.take (j + 1)).flatten = (allN l i ++ (p.ps.take j).flatten) ++ s := by rw [hT, List.append_assoc]
          generalize hA : allN l i ++ (p.ps.take j).flatten = A at hbj hT2 ⊢
          by_cases h4 : s.length ≤ 150
          · simp (disch := omega) [-List.map_replicate, -List.map_set, -List.getD_eq_getElem?_getD, -getElem?_pos, -getElem?_neg, wrap_i64, le_strLim, omLe, omLt, omLtN, onLeN, onEqN, Parts.av, hs1, hgj]
            refine ⟨j + 1, ⟨by omega, ?_⟩, by omega, by rw [hT2], by omega⟩
            have := congrArg List.length hT2
            simp only [List.length_append, List.length_flatten] at this ⊢
            simp only [List.map_take] at this ⊢
            omega
          · simp (disch := omega) [-List.map_replicate, -List.map_set, -List.getD_eq_getElem?_getD, -getElem?_pos, -getElem?_neg, omLe, omLt, onLeN, onEqN, Parts.av, hs1, hgj]
        · obtain rfl : j = p.ps.length := by omega
          have hf : (p.ps.take p.ps.length).flatten = p.ps.flatten := by rw [List.take_length]
          rw [hf] at hbj ⊢
          simp only [List.length_append] at hbj
          have w := ansWriteP (allN l i) p hpk (by omega) (by omega)
          rw [← hN] at w ⊢
          have hNl : (allN l (i + 1)).length = (allN l i).length + p.ps.flatten.length := by rw [hN]; simp
          have s1 := ansSum1 [.var 59 (hash0.write1 (allN l (i + 1))).av] (by simp [shut, av_under]) 0 (allN l (i + 1)) rfl
          have p1 := ansSumP (allN l (i + 1)) (by omega)
          rw [show ((allN l i).length : Int) + (p.ps.flatten.length : Int) = ((allN l (i + 1)).length : Int) by omega] at w
          have hbn : (allN l (i + 1)).length ≤ 750 * (i + 1) := by omega
          simp (disch := omega) [-List.map_replicate, -List.map_set, -List.getD_eq_getElem?_getD, -getElem?_pos, -getElem?_neg, wrap_i64, omLe, onLeN, onLtN, onEqN, w, s1, p1]
          exact ⟨i + 1, by omega, by omega, by simp, rfl⟩
      · simp (disch := omega) [-List.map_replicate, -List.map_set, -List.getD_eq_getElem?_getD, -getElem?_pos, -getElem?_neg, omLe, omLt, onLeN, hg, Parts.av]
    · obtain rfl : i = l.length := by omega
      simp (disch := omega) [-List.map_replicate, -List.map_set, -List.getD_eq_getElem?_getD, -getElem?_pos, -getElem?_neg, omLe, onLeN, onLtN]
  · simp (disch := omega) [-List.map_replicate, -List.map_set, -List.getD_eq_getElem?_getD, -getElem?_pos, -getElem?_neg, omLt, onEqN, ir7, ansAwake]
end Go.Proofs.Ytfplnlmddcchjaa
