/- An append at a step of a region, that tells which row comes out. -/
import Derived.Test.YtkehdagodeaepaaAdds
import Derived.Deep.AppendLies
import Derived.Deep.RegionHeld3
namespace Go.Proofs.Ytkehdagodeaepaa
open Go.RowKit

/-- 'append(v, src...)' at a step of a region: v the call's own, not nil; the row that comes out is v's, or the next block. -/
theorem step_append_sep {P : Program} {w : World} {ops : Array Oper} {o : Oper} {a : Act} {K : Act → World → Prop} {Q : Exit → Act → World → Prop} {E : Prop} (hw : Region.wanted o (yielded ops a.tmps) = true) (s x : Operand) (t : TypeId)
    (ho : o.op = .call { callee := .builtin .append, args := #[s, x], argTypes := #[t, t] })
    (base : Nat) (e : TypeId) (i : TypeInfo) (z : Value) (bytes : Nat) (ht : P.underlying t = some (.slice e)) (hi : P.info? e = some i) (hz : i.zero = some z)
    (hsize : i.size = 1) (hby : i.bytes = bytes) (hzs : z.cells.size = 1)
    (g n cp : Nat) (xs : List Value) (hs : a.eval s = .slice (some ⟨g, 0, none⟩) n cp) (hown : w.ownsRow base e 1 (.slice (some ⟨g, 0, none⟩) n cp) n xs)
    (k : IntKind) (ad : Option Addr) (m c : Nat) (zs : List Int) (hx : a.eval x = .slice ad m c) (hr : Reads k w ad m c zs)
    (h63 : n + m ≤ maxLen) (hbytes : (n + m) * bytes ≤ 140737488355328) (hbase : base ≤ w.heap.size) (H : Nat) (hH : w.heap.size = H)
    (h : ∀ g' cp' w', w'.ownsRow base e 1 (.slice (some ⟨g', 0, none⟩) (n + m) cp') (n + m) (xs ++ zs.map (Value.int k)) → w.grownBy w' (some g) → (g' = g ∨ g' = H) → g' < w'.heap.size → K (a.put o.dst (.slice (some ⟨g', 0, none⟩) (n + m) cp')) w') :
    if Region.wanted o (yielded ops a.tmps) = true then Oper.wp P o a w K Q else E := by
  rw [if_pos hw]
  have hl := hr.length
  have hgs : g < w.heap.size := (hown.lt g rfl).2
  have hg0 := hown.2
  by_cases hm : m = 0
  · subst hm
    have : zs = [] := List.eq_nil_of_length_eq_zero hl
    subst this
    rcases hg0 with ⟨h', _⟩ | ⟨g', cap', cur, h', hb, hg, hnc, hcm, hcs, htake⟩
    · simp at h'
    · simp only [Value.slice.injEq, Option.some.injEq, Addr.mk.injEq, and_true, true_and] at h'
      obtain ⟨rfl, rfl⟩ := h'
      cases ad with
      | none =>
        have hc := hr.nil rfl
        subst hc
        have hrun := run_append_owned_none (P := P) (w := w) base t o.type e i 1 ht hi _ n xs hown
        have hK := h g cp w (by simpa using hown) (World.grownBy.refl _ _) (.inl rfl) hgs
        unfold Oper.wp
        simp [execOp, ho, resolve, invoke, builtin, hs, hx, hrun, Result.andThen]
        exact hK
      | some p =>
        have hxl : xs.length = n := by have := hown.1; simpa using this
        have hrun := run_append_room (P := P) w t o.type e i ht hi g n cp cur hg p 0 c [] (by simp) (by intro j u hu; simp at hu) (by simp) (by omega) (by simp [hsize, hcs]; omega)
        have hK := h g cp (w.setRow g cur) ⟨by simpa using hown.1, .inr ⟨g, cp, cur, rfl, hb, setRow_heap w g cur _ e _ hg, hnc, hcm, hcs, by simpa using htake⟩⟩ ⟨rfl, rfl, rfl, by simp, fun k _ hk => setRow_other w g k _ (fun e => hk (by simp [e]))⟩ (.inl rfl) (by simpa using hgs)
        unfold Oper.wp
        simp only [execOp, ho, resolve, invoke, builtin, Sem.run_bind, Sem.run_pure, Result.andThen_ok, List.map_toArray, List.map_cons, List.map_nil, hs, hx, hrun]
        have hK' : K (a.put o.dst (Value.slice (some ⟨g, 0, none⟩) n cp)) (w.setRow g cur) := by simpa using hK
        simp
        exact hK'
  · rcases hr.cells with h0 | ⟨b, off, rfl, hcell⟩
    · omega
    · refine wp_append_lies w s x t ho base e i z 1 bytes ht hi hz hsize hby hzs (by decide) _ n xs hs hown ⟨b, off, none⟩ m c (zs.map (Value.int k)) hx (by simp [hl]) ?_ ?_ (by omega) h63 hbytes hbase H hH (fun g' cp' w' h1 h2 h3 h4 => h g' cp' w' h1 h2 (h3.imp (fun e => by simpa [Value.ownBlock] using e.symm) id) h4)
      · intro j u hu
        have hj : j < zs.length := by
          rcases Nat.lt_or_ge j zs.length with hlt | hge
          · exact hlt
          · simp [hge] at hu
        have := hcell j (by omega)
        rw [show (⟨b, off, none⟩ : Addr).add j = ⟨b, off + j, none⟩ by simp [Addr.add], this]
        simpa [List.getD, List.getElem?_eq_getElem hj] using hu
      · intro u hu
        simp only [List.mem_map] at hu
        obtain ⟨n, _, rfl⟩ := hu
        rfl
theorem own_lit {w : World} {g : Nat} (h : w.heap[g]? = some (.cells #[] 5 (0, 0))) : w.ownsRow g 5 1 (.slice (some ⟨g, 0, none⟩) 0 0) 0 [] :=
  ⟨by simp, .inr ⟨g, 0, #[], rfl, Nat.le_refl _, h, Nat.le_refl _, by decide, by simp, by simp⟩⟩
end Go.Proofs.Ytkehdagodeaepaa
