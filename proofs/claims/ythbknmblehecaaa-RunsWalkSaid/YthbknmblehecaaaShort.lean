/- Short names for lemmas that the printed texts repeat. No statement is proved here. -/
import Derived.Test.YthbknmblehecaaaPrx0
namespace Go.Proofs.Ythbknmblehecaaa.Pr
open Go.RowKit Go.Proofs.YthbknmblehecaaaW.PrintWords Go.Proofs.YthbknmblehecaaaW.PrintLast Go.Proofs.YthbknmblehecaaaW.PrintMore
set_option linter.unusedVariables false
theorem rA : type_of% @Kd.R_alloc := @Kd.R_alloc
theorem rN : type_of% @Kd.R_drewN := @Kd.R_drewN
theorem rD : type_of% @Kd.R_drew := @Kd.R_drew
theorem rB : type_of% @Kd.R_below := @Kd.R_below
theorem rF_ : type_of% @Kd.R_far := @Kd.R_far
theorem rM : type_of% @Kd.R_mono := @Kd.R_mono
theorem bN : type_of% @blk_drewN := @blk_drewN
theorem bD : type_of% @blk_drew := @blk_drew
theorem bA : type_of% @blk_alloc := @blk_alloc
theorem bC : type_of% @blk_cell := @blk_cell
theorem bF : type_of% @blk_frozen := @blk_frozen
theorem bB : type_of% @blk_below := @blk_below
theorem bP : type_of% @blk_put := @blk_put
theorem bR : type_of% @blk_far := @blk_far
theorem bL : type_of% @blk_lt := @blk_lt
theorem wA : type_of% @below_alloc := @below_alloc
theorem wN_ : type_of% @pw_below_drewN := @pw_below_drewN
theorem wD : type_of% @below_drew1 := @below_drew1
theorem wS : type_of% @below_set := @below_set
theorem wZ : type_of% @below_size := @below_size
theorem wT : type_of% @below_step := @below_step
theorem aM : type_of% @Aside0.mk := @Aside0.mk
theorem lS : type_of% @List.setIfInBounds_toArray := @List.setIfInBounds_toArray
theorem lZ : type_of% @List.set_cons_zero := @List.set_cons_zero
theorem lU : type_of% @List.set_cons_succ := @List.set_cons_succ
theorem lM : type_of% @List.map_toArray := @List.map_toArray
theorem lC : type_of% @List.map_cons := @List.map_cons
theorem lN : type_of% @List.map_nil := @List.map_nil
theorem lD : type_of% @List.length_drop := @List.length_drop
theorem lT : type_of% @List.length_take := @List.length_take
theorem oD : type_of% @of_decide_eq_true := @of_decide_eq_true
theorem wL : type_of% @World.block_lt_of_cell? := @World.block_lt_of_cell?
theorem cA : type_of% @Kd.C_alloc := @Kd.C_alloc
theorem cN : type_of% @Kd.C_drewN := @Kd.C_drewN
theorem cD : type_of% @Kd.C_drew := @Kd.C_drew
theorem cB : type_of% @Kd.C_below := @Kd.C_below
theorem oB : type_of% @Option.bind_eq_some_iff := @Option.bind_eq_some_iff
end Go.Proofs.Ythbknmblehecaaa.Pr
