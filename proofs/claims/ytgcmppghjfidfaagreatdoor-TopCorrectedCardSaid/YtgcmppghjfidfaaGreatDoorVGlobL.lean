/-
 A law's contract in worlds of which a predicate holds.
-/
import Derived.Test.YtgcmppghjfidfaaGreatDoorVFrame
import Derived.Test.YtgcmppghjfidfaaGreatDoorVGlob
namespace Go.Vx
open Go Go.RowKit Go.ChangeShapes Go.WideShapes Go.Deep
set_option linter.unusedVariables false
set_option linter.unusedSimpArgs false
theorem law_contractK {gl : World → Prop} {P : Program} {H : Type} {enc : TypeId × Value → H} {f : FuncId} {fn : Func} {s : ChangeSpec} {shs : List (List Sh)} {tb : TypeId} {n : Nat} (hl : laidOutB P = true) (hr : ∀ t ∈ fn.params.toList, P.readableRec t = true ∧ t < P.types.size)
  (hv : s.vars = []) (hres : fn.resultTypes = #[tb]) (htb : P.underlying tb = some .bool) (hs : ∀ ds : List (DataW H), ds.length = fn.params.toList.length → s.fn H ds = ⟨[.lit (.bool true)], ds, []⟩)
  (hsh : fn.params.toList.mapM (shOf P n) = some shs) (law : ∀ dss, HasShLL shs dss → CtrK gl P f (argsSV P fn.params.toList dss) (fun rr => rr = ⟨.v (.bool true), []⟩))
  {apart fresh handsOn again : Bool} (W : World) (base : Nat) (args : Array Value) (ds gs : List (DataW H)) (before : List MemPlace) (hgl : gl W)
  (hval : ∀ (j : Nat) t v, fn.params[j]? = some t → args[j]? = some v → Value.okWide P W .any base t v)
  (hW : DataW.Whole enc P fn.params.toList s.vars apart W args.toList ds gs before) :
  Calls P f args W fun e W' => ∃ v, e = .returned v ∧ s.post enc P fn apart fresh handsOn again W args v W' := by
 have hW' := hW
 obtain ⟨p, q, hA, hV, rfl, -, -⟩ := hW
 rw [hv] at hV
 obtain ⟨rfl, rfl⟩ := trodVars_none hV
 obtain ⟨dss, h1, h2⟩ := args_rel hsh (fun j t v ht hv' => hval j t v (by simpa using ht) (by simpa using hv')) hA
 have hlen := trodAll_len hA
 refine ((law dss h1).2 W _ (fun _ _ h => h) hgl args.toList h2).mono fun e W' ⟨v, r, he, hr', hb, hm⟩ => ?_
 obtain ⟨g, -, -, hrel, -⟩ := hm
 subst hr'
 have hv0 : v = .bool true := hrel
 subst hv0
 have hsn := hs ds hlen
 have hlt : ∀ x ∈ p ++ [], x.block < W.heap.size := fun x hx => hW'.lt x hx
 refine ⟨_, he, post_of_below' (pa := p) (pv := []) hW' (fun b sp hd => ?_) (fun sp hsp => ?_) (fun sp hsp => ?_) rfl hb ?_⟩
 ·rw [List.append_nil, hsn, hres]
  exact trodAll_cons_mk (shut_bool htb true) trodAll_mk0
 ·rw [List.append_nil, hsn]
  exact trodAll_stays hl hr hA (fun x hx => hb.same (hlt x (by simpa using hx))) (fun x hx => hsp x (by simpa using hx))
 ·rw [List.append_nil, hsn, hv]
  rfl
 ·exact ok_one hres (by rfl) (okWide_bool_mk htb true)
end Go.Vx
